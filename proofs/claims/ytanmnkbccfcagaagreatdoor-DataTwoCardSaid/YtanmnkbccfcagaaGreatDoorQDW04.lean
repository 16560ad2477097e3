/-
  Texts of a proof, joined: HA, HD, GG, K28, GH, GI, GJ, GK, GL, GM, GN, GO, GP, HE, L2, B1, HF, HG, HB, HH, GQ, GR, GS, GT, GU, GX, HI, B2, HJ.
  Conditions: none.
-/
import Derived.Test.YtanmnkbccfcagaaGreatDoorQDW03
import Derived.Lib.AppendIntMem
import Derived.Test.YtanmnkbccfcagaaGreatDoorProg
import Derived.Shelf.Small.Strs
import Derived.Shelf.Strings.Builder1
import Derived.Test.YtanmnkbccfcagaaGreatDoorQDW02
set_option linter.unusedVariables false
set_option linter.unusedSimpArgs false
set_option linter.defProp false
set_option linter.unnecessarySimpa false
set_option maxHeartbeats 8000000
namespace Go.Proofs.YtanmnkbccfcagaaGreatDoor
open Go
set_option maxRecDepth 10000
def TyC(cs:List Value)(x:Int×Lab):Prop:=cs=[vi x.1,vs x.2]
theorem TyC.shape:Shape 2 TyC:=⟨fun h=>by rw[h];rfl,fun h=>by
 rw[h]
 intro q hq
 rcases List.mem_cons.1 hq with rfl|hq
 ·rfl
 ·rw[List.mem_singleton.1 hq];rfl⟩
def tyTab:List (Int×Lab):=[(1,[65]),(2,[78,83]),(5,[67,78,65,77,69]),(6,[83,79,65]),(12,[80,84,82]),(15,[77,88]),(16,[84,88,84]),(28,[65,65,65,65]),(39,[68,78,65,77,69])]
def zdX(k:Int):List (Int×Lab)→Lab×Bool
 | []=>([],false)
 |x::T=>if x.1=k then(x.2,true) else zdX k T
theorem bs_tab{P:Program}{t e:TypeId}{parts:List (Nat×Value)}{w:World}{K:Value→World→Prop}(hC:bsC P t 9 parts=some (e,(tyTab.flatMap fun x=>[vi x.1,vs x.2]).toArray))
  (h:∀w1,Ext w w1→Rows 2 TyC w1 (.slice (some ⟨w.heap.size,0,Option.none⟩) 9 9) tyTab→K (.slice (some ⟨w.heap.size,0,Option.none⟩) 9 9) w1):bsL P t 9 parts w K .mk:=by
 unfold bsL bsK
 rw[hC]
 refine h _ (Ext.alloc w _) (Rows.close (xs:=tyTab) (c:=9) (by decide) fun i hi=>?_)
 have hb:=zar w (.cells (tyTab.flatMap fun x=>[vi x.1,vs x.2]).toArray e (0,0))
 have hi9:i<9:=hi
 match i,hi9 with
 |0,_=>exact⟨_,zao (o:=0) (k:=2) hb (by decide),rfl⟩
 |1,_=>exact⟨_,zao (o:=2) (k:=2) hb (by decide),rfl⟩
 |2,_=>exact⟨_,zao (o:=4) (k:=2) hb (by decide),rfl⟩
 |3,_=>exact⟨_,zao (o:=6) (k:=2) hb (by decide),rfl⟩
 |4,_=>exact⟨_,zao (o:=8) (k:=2) hb (by decide),rfl⟩
 |5,_=>exact⟨_,zao (o:=10) (k:=2) hb (by decide),rfl⟩
 |6,_=>exact⟨_,zao (o:=12) (k:=2) hb (by decide),rfl⟩
 |7,_=>exact⟨_,zao (o:=14) (k:=2) hb (by decide),rfl⟩
 |8,_=>exact⟨_,zao (o:=16) (k:=2) hb (by decide),rfl⟩
theorem zgf(w:World):Fn Tryz.prog 126 #[] w (fun v w'=>Rows 2 TyC w' v tyTab∧Ext w w'):=by
 refine enter Tryz.func126 Tryz.ntmps126 rfl rfl ?_
 refine go trivial ?_
 refine rq ?_;intro gd K hgd hK
 try simp only[go_sem]
 iterate 9
  refine⟨by kernel_rfl,?_⟩
  rw[show ∀n s,bdV Tryz.prog 245 [(0,vi n),(1,.string s)]=some (.agg #[vi n,.string s]) from fun n s=>by kernel_rfl]
  try simp only[go_sem]
 refine bs_tab (e:=245) (by kernel_rfl) ?_
 intro w1 hE1 hR
 try simp only[go_sem]
 refine hK _ _ ?_;clear hK hgd;clear K;try clear gd
 repeat refine c_r ?_
 refine rt0 Tryz.ntmps126 ?_
 exact⟨hR,hE1⟩
theorem find_ok{w:World}{v:Value}{T:List (Int×Lab)}(h:Rows 2 TyC w v T)(hT:T.length≤1000)(k:Int):
  Fn Tryz.prog 125 #[v,vi k] w (fun u w'=>u= .tuple #[vs (zdX k T).1,.bool (zdX k T).2]∧Ext w w'):=by
 obtain⟨a,c,rfl,hc,hg⟩:=h.open
 refine enter Tryz.func125 Tryz.ntmps125 rfl rfl ?_
 refine go trivial ?_
 refine zcq T.length (fun i σ x=>σ 9= .slice a T.length c∧σ 10=vi T.length∧σ 11=vi i∧σ 1=vi k∧zdX k T=zdX k (T.drop i)∧Ext w x) ?_ ?_ ?_
 ·exact⟨vr0,vr0,vr0,vr0,rfl,Keep.refl _ _⟩
 ·rintro i σ x hi p ⟨h9,h10,h11,h1,hf,hE⟩
  obtain⟨cs,g0,hcs⟩:=hg i hi
  have g:=zaf hE g0
  obtain⟨y,hy⟩:∃y,T[i]=y:=⟨_,rfl⟩
  rw[hy]at hcs
  have hcs:cs=[vi y.1,vs y.2]:=hcs
  subst hcs
  obtain⟨xa,rfl⟩:=Option.isSome_iff_exists.1 (zeX g)
  obtain⟨xi,hxi⟩:∃xi,adr (some xa) (i*2)=some xi:=⟨_,rfl⟩
  rw[hxi]at g
  have hi0:(0:Int)≤(i:Int):=by omega
  have hi1:(i:Int)<(T.length:Int):=by omega
  have hi2:(i:Int)+1=((i+1:Nat):Int):=by push_cast;rfl
  refine go (an4 h9 h10 h11 p) ?_
  refine rq ?_;intro gd K hgd hK
  try simp (disch:=first|omega|assumption|rfl) only[go_sem,h9,h11,hi0,hi1,hxi,g]
  refine zbo (P:=Tryz.prog) (l:=[vi y.1,vs y.2]) rfl ?_ rfl rfl ?_
  ·exact TyC.shape.ones (a:=y) rfl
  intro x1 hE1 hs1 hB1
  try simp only[go_sem]
  refine hK _ _ ?_;clear hK hgd;clear K;try clear gd
  have p0:=zaK (l:=[vi y.1,vs y.2]) (j:=0) hB1 rfl
  have p1:=zaK (l:=[vi y.1,vs y.2]) (j:=1) hB1 rfl
  rw[List.drop_eq_getElem_cons hi,hy]at hf
  by_cases he:y.1=k
  ·refine go (an5 p0 p1 h1 (decide_eq_true he) (Nat.zero_add 1)) ?_
   refine zaj (.inr rfl) Tryz.ntmps125 rfl (zac (v:=vs y.2) (vr0) (zac (v:= .bool true) (vr0) zai)) ?_
   rw[hf]
   unfold zdX
   rw[if_pos he]
   exact⟨rfl,hE.trans hE1⟩
  ·refine go (an8 p0 h1 (decide_eq_false he) h9 h10 h11 hi2 p) ?_
   refine⟨rfl,(vq1 h9),(vq1 h10),vq0,(vq1 h1),?_,hE.trans hE1⟩
   rw[hf]
   show(if y.1=k then _ else _)=_
   rw[if_neg he]
 ·rintro σ x p ⟨h9,h10,h11,h1,hf,hE⟩
  refine go (an4 h9 h10 h11 p) ?_
  refine zaj (.inr rfl) Tryz.ntmps125 rfl (zac (v:=vs []) (vr0) (zac (v:= .bool false) (vr0) zai)) ?_
  rw[hf,List.drop_length]
  exact⟨rfl,hE⟩
theorem zhc(w:World)(k:Int):Fn Tryz.prog 151 #[vi k] w (fun u w'=>u= .bool (zdX k tyTab).2∧Ext w w'):=by
 refine enter Tryz.func151 Tryz.ntmps151 rfl rfl ?_
 refine go trivial ?_
 refine rc trivial (zgf w) ?_
 rintro v w1 ⟨hR,hE1⟩
 refine rd trivial (find_ok hR (by decide) k) ?_
 rintro _ w2 ⟨rfl,hE2⟩
 refine rgo trivial ?_
 refine rt0 Tryz.ntmps151 ?_
 exact⟨rfl,hE1.trans hE2⟩
def zeO(sep:Lab):List Lab→Lab
 | []=>[]
 |x::r=>x++r.flatMap fun y=>sep++y
def zaw(xs:List Lab):Nat:=(xs.map List.length).sum
theorem zdA{xs:List Lab}{i:Nat}(h:i<xs.length):zaw (xs.take (i+1))=zaw (xs.take i)+xs[i].length:=by
 unfold zaw;rw[zal h,List.map_append,List.sum_append];simp
theorem zcW{xs:List Lab}(i:Nat):zaw (xs.take i)≤zaw xs:=by
 have h:=congrArg zaw (List.take_append_drop i xs)
 unfold zaw at*
 rw[List.map_append,List.sum_append]at h
 omega
theorem zfk(sep:Lab)(r:List Lab):(r.flatMap fun y=>sep++y).length=sep.length*r.length+zaw r:=by
 induction r with
 |nil=>simp[zaw]
 |cons y r ih=>
  have:zaw (y::r)=y.length+zaw r:=by simp[zaw]
  rw[List.flatMap_cons,List.length_append,List.length_append,ih,List.length_cons,this,Nat.mul_succ];omega
theorem zhj{w:World}{v:Value}{xs:List Lab}(h:Row w v (xs.map vs)){sep:Lab}(hx:xs.length≤1000000)(hs:1≤sep.length)(hs2:sep.length≤1000)(hl:zaw xs≤1000000000):
  Fn Tryz.prog 58 #[v,vs sep] w (fun u w'=>u=vs (zeO sep xs)∧Ext w w'):=by
 obtain⟨a,c,rfl,hc,hg⟩:=h
 rw[List.length_map]at hc
 rw[List.length_map]
 obtain⟨L,hL⟩:∃L,xs.length=L:=⟨_,rfl⟩
 have hgx:∀i (hi:i<xs.length),zag w (adr a i)=some (vs xs[i]):=fun i hi=>by
  have:=hg i (by rw[List.length_map];exact hi)
  rw[List.getElem_map]at this
  exact this
 refine enter Tryz.func58 Tryz.ntmps58 rfl rfl ?_
 by_cases h0:L=0
 ·have hx0:xs=[]:=List.length_eq_zero_iff.1 (by omega)
  subst hx0
  refine go (show decide (((0:Nat):Int)=0)=true from rfl) ?_
  refine rt0 Tryz.ntmps58 ?_
  exact⟨rfl,Keep.refl _ _⟩
 have hL0:0<xs.length:=by omega
 have g0:=hgx 0 hL0
 obtain⟨xa,rfl⟩:=Option.isSome_iff_exists.1 (zae g0)
 rw[zaL]at g0
 have d0:decide ((L:Int)=0)=false:=decide_eq_false (by omega)
 have z0:(0:Int)≤0:=by decide
 have zL:(0:Int)<(L:Int):=by omega
 have t0:(0:Int).toNat=0:=rfl
 rw[hL]at hc ⊢
 obtain⟨x,r,hxr⟩:∃x r,xs=x::r:=by
  cases xs with
  |nil=>simp at hL0
  |cons x r=>exact⟨x,r,rfl⟩
 have hx0:xs[0]=x:=by simp only[hxr];rfl
 rw[hx0]at g0
 by_cases h1:L=1
 ·have hr:r=[]:=by rw[hxr]at hL;simp at hL;exact List.length_eq_zero_iff.1 (by omega)
  have d1:decide ((L:Int)=1)=true:=decide_eq_true (by omega)
  refine go (an7 d0 d1 z0 zL t0 zaL g0) ?_
  refine zaj (.inr rfl) Tryz.ntmps58 rfl (zac (v:=vs x) (vr0) zai) ?_
  rw[hxr,hr,show zeO sep [x]=x by simp[zeO]]
  exact⟨rfl,Keep.refl _ _⟩
 have d1:decide ((L:Int)=1)=false:=decide_eq_false (by omega)
 obtain⟨M,hM⟩:∃M,sep.length*(L - 1)=M:=⟨_,rfl⟩
 have hM1:M≤1000*1000000:=hM▸Nat.mul_le_mul hs2 (by omega)
 have dS:decide ((0:Int)<(sep.length:Int))=true:=decide_eq_true (by omega)
 have e1:(L:Int) - 1=((L - 1:Nat):Int):=by omega
 obtain⟨q,hq⟩:∃q,9223372036854775807 / (L - 1)=q:=⟨_,rfl⟩
 have hq1:1001≤q:=by rw[←hq,Nat.le_div_iff_mul_le (by omega)];omega
 have hq2:q≤9223372036854775807:=by rw[←hq];exact Nat.div_le_self _ _
 have e2:(9223372036854775807:Int).tdiv ((L - 1:Nat):Int)=(q:Int):=by
  rw[Int.tdiv_eq_ediv_of_nonneg (by omega),←hq,Int.natCast_ediv];rfl
 have nz:¬((L - 1:Nat):Int)=0:=by omega
 have d2:decide ((q:Int)≤(sep.length:Int))=false:=decide_eq_false (by omega)
 have e3:IntKind.i64.wrap ((sep.length:Int)*((L - 1:Nat):Int))=(M:Int):=by
  rw[←Int.natCast_mul,hM]
  exact ze9 (by omega) (by omega)
 refine go (an8 d0 d1 dS e1 e2 nz d2 e3) ?_
 refine zcq L (fun i σ v=>σ 0= .slice (some xa) L c∧σ 1=vs sep∧σ 5=vi (M+zaw (xs.take i):Nat)∧σ 39= .slice (some xa) L c∧σ 40=vi L∧σ 41=vi i∧w=v) ?_ ?_ ?_
 ·have hM0:(0:Int)+(M:Int)=((M+zaw (xs.take 0):Nat):Int):=by simp[zaw]
  exact⟨vr0,vr0,(vq1 hM0),vr0,vr0,vr0,rfl⟩
 ·rintro i σ v hi p ⟨s0,s1,s5,s39,s40,s41,rfl⟩
  have hi':i<xs.length:=by omega
  have g:=hgx i hi'
  have ht:=zdA hi'
  have hle:=zcW (xs:=xs) (i+1)
  obtain⟨y,hy⟩:∃y,xs[i]=y:=⟨_,rfl⟩
  rw[hy]at g ht
  obtain⟨N,hN⟩:∃N,M+zaw (xs.take i)=N:=⟨_,rfl⟩
  rw[hN]at s5
  have hN2:M+zaw (xs.take (i+1))=N+y.length:=by omega
  have hi0:(0:Int)≤(i:Int):=by omega
  have hi1:(i:Int)<(L:Int):=by omega
  have hi2:(i:Int)+1=((i+1:Nat):Int):=by push_cast;rfl
  have d3:decide ((9223372036854775807:Int) - (N:Int)<(y.length:Int))=false:=decide_eq_false (by omega)
  have e4:(N:Int)+(y.length:Int)=((N+y.length:Nat):Int):=by omega
  refine go (an9 s0 s1 s5 s39 s40 s41 p g (an4 hi0 hi1 d3 e4)) ?_
  refine⟨rfl,(vq1 s0),(vq1 s1),(vq1 hN2),(vq1 s39),(vq1 s40),(vq1 hi2),rfl⟩
 rintro σ v p ⟨s0,s1,s5,s39,s40,s41,rfl⟩
 have hlt:=zcW (xs:=xs) L
 refine go (an5 s39 s40 s41 p s0) ?_
 refine zas ?_
 intro w1 hE1 hs1 hA
 refine rc s5 (zga (n:=M+zaw (xs.take L)) hA (by omega)) ?_
 rintro _ w2 ⟨hB2,hk2⟩
 have hEv:Ext w w2:=Keep.to_ext hE1 rfl (fun b hb=>by omega) hk2
 have hs2':=hk2.size
 have g2:=zaa hEv g0
 have hlx:zaw xs=x.length+zaw r:=by rw[hxr];simp[zaw]
 have hrL:r.length=L - 1:=by rw[hxr]at hL;simp at hL;omega
 refine rgo s0 ?_
 refine rc (an7 s0 z0 zL t0 zaL g2 s1) (zaD (s:=x) hB2 (by omega) (by simp;omega)) ?_
 rintro _ w3 ⟨hB3,hk3⟩
 have hE3:Ext w w3:=Keep.to_ext hEv rfl (fun b hb=>by omega) hk3
 have hs3:=hk3.size
 obtain⟨y1,hy1⟩:∃y1,adr (some xa) 1=some y1:=⟨_,rfl⟩
 have z1:(0:Int)≤1:=by decide
 have zl1:(1:Int)≤(L:Int):=by omega
 have t1:(1:Int).toNat=1:=rfl
 have hce:(if c=1 then some xa else some y1)=some y1:=if_neg (by omega)
 refine rgo (an7 s0 s1 z1 zl1 t1 hce hy1) ?_
 have hjl:=zfk sep
 have hsr:sep.length*r.length=M:=by rw[hrL,hM]
 refine zcq (L - 1) (fun i σ v=>σ 1=vs sep∧σ 8= .pointer (some ⟨w.heap.size,0,Option.none⟩)∧σ 63= .slice (some y1) (L - 1) (c - 1)∧σ 64=vi (L - 1:Nat)∧σ 65=vi i∧Ext w v∧w1.heap.size≤v.heap.size∧Bld w1.heap.size v w.heap.size (x++(r.take i).flatMap fun y=>sep++y)) ?_ ?_ ?_
 ·exact⟨(vq1 s1),vr0,vr0,vr0,vr0,hE3,by omega,by simpa using hB3⟩
 ·rintro i σ v hi p ⟨s1,s8,s63,s64,s65,hE,hsv,hB⟩
  have hir:i<r.length:=by omega
  have g:=zaa hE (hgx (i+1) (by omega))
  have hxi:xs[i+1]'(by omega)=r[i]:=by simp only[hxr];rfl
  rw[hxi]at g
  have g':zag v (adr (some y1) i)=some (vs r[i]):=by rw[←hy1,zd1,Nat.add_comm];exact g
  have hi0:(0:Int)≤(i:Int):=by omega
  have hi1:(i:Int)<((L - 1:Nat):Int):=by omega
  have hi2:(i:Int)+1=((i+1:Nat):Int):=by push_cast;rfl
  have hlr:zaw (r.take i)≤zaw r:=zcW i
  have hri:r[i].length≤zaw r:=by
   have h1:=zdA hir
   have h2:=zcW (xs:=r) (i+1)
   omega
  have hfl:=hjl (r.take i)
  have htl:(r.take i).length=i:=by rw[List.length_take];omega
  have hsi:sep.length*i≤M:=by rw[←hM];exact Nat.mul_le_mul_left _ (by omega)
  rw[htl]at hfl
  refine go (an9 s1 s8 s63 s64 s65 p g' hi0 hi1) ?_
  refine rc (an2 s1 s8) (zaD (s:=sep) hB hsv (by simp only[List.length_append];omega)) ?_
  rintro _ v1 ⟨hB1,hk1⟩
  have hsv1:=hk1.size
  refine rgo trivial ?_
  refine rc (an2 s1 s8) (zaD (s:=r[i]) hB1 (by omega) (by simp only[List.length_append];omega)) ?_
  rintro _ v2 ⟨hB2',hk2'⟩
  have hsv2:=hk2'.size
  refine rgo (an5 s1 s8 s63 s64 (an2 s65 hi2)) ?_
  refine⟨rfl,(vq1 s1),(vq1 s8),(vq1 s63),(vq1 s64),(vq1 hi2),Keep.to_ext hE rfl (fun b hb=>by omega) (hk1.trans hk2'),by omega,?_⟩
  rw[zal hir,List.flatMap_append,List.flatMap_singleton]
  simpa [List.append_assoc] using hB2'
 ·rintro σ v p ⟨s1,s8,s63,s64,s65,hE,hsv,hB⟩
  rw[←hrL,List.take_length]at hB
  have hfl:=hjl r
  refine go (an4 s63 s64 s65 p) ?_
  refine rc s8 (zbK hB (by simp only[List.length_append];omega)) ?_
  rintro _ v1 ⟨rfl,hk1⟩
  refine rgo trivial ?_
  refine rt0 Tryz.ntmps58 ?_
  rw[hxr]
  exact⟨rfl,Keep.to_ext hE rfl (fun b hb=>by omega) hk1⟩
theorem i_str0(k:IntKind)(c:UInt8)(r:Lab):ixSD (some .string) (vs (c::r)) (.int k 0)=some (.int .u8 c.toNat):=(zfL (Int.le_refl _) (by simp)).trans rfl
attribute [go_sem] i_str0
section
variable {P : Program} {d : Option Tmp} {ty : TypeId} {ps : String} {af : Array Edge} {g : Option (Nat × Bool)} {ρ : Operand → Value} {w : World} {K : Value → World → Prop}
theorem zce(alt:Prop)(m:Lck K alt):optL Option.none w K alt m=alt:=rfl
theorem zdR{t yt:TypeId}{x:Operand}{u:Value}{b:Bool}(ht:P.underlying t=some (.interface (P.methodsAt t)))(hu:(u= .nilIface∧b=false)∨((∃k p,u= .iface k p)∧b=true))(hx:ρ x=u)(hn:ρ (.const .nilIface)= .nilIface)(h:K (.bool b) w):
  opW P ⟨d,.binOp .neq t x (.const .nilIface) yt,ty,ps,af,g⟩ ρ w K:=by
 have hr:(do eqGuard .neq t x (.const .nilIface) u .nilIface;binOp .neq t u .nilIface:Sem Value).run P w= .ok (.bool b) w:=by
  rcases hu with ⟨rfl,rfl⟩| ⟨⟨k,p,rfl⟩,rfl⟩
  ·simp[Sem.run,eqGuard,run_neq_nil_nil w t ht]
  ·simp[Sem.run,eqGuard,run_neq_held_nil w t k p ht]
 have:=zap (P:=P) (K:=K) hr h
 rw[←hx,←hn]at this
 exact this
end
theorem zfO(c:UInt8)(r:Lab):zfP (c::r)=((c::r).all digB && !(decide (c=48) && !decide (r=[]))):=by
 unfold zfP
 cases r with
 |nil=>simp
 |cons a r=>by_cases h:c=48<;>simp[h]
theorem zcG{w:World}(hW:WX w)(s:Lab)(most:Nat)(hm:most≤4294967296)(hs:s.length≤1000000000):
  Fn Tryz.prog 74 #[vs s,.int .u64 most] w (fun v w'=>v= .tuple #[.int .u64 (decP most s).1,vi (decP most s).2]∧Ext w w'):=by
 refine enter Tryz.func74 Tryz.ntmps74 rfl rfl ?_
 refine go trivial ?_
 refine zat (Q:=fun e σ ds v=>e= .normal∧ds=[]∧σ 0=vs s∧σ 1= .int .u64 most∧σ 23= .bool (!zfP s)∧Ext w v) ?_ ?_
 ·by_cases h0:s=[]
  ·subst h0
   refine rgg [(2,10),(7,15),(11,19)] trivial ?_
   exact⟨rfl,rfl,vr0,vr0,vr0,Keep.refl _ _⟩
  obtain⟨c,r,rfl⟩:=List.exists_cons_of_ne_nil h0
  rw[zfO]
  have d0:decide (c::r=[])=false:=decide_eq_false h0
  refine rcg [(2,10),(7,15),(11,19)] d0 (Trim_ok w (c::r) h0 (by omega)) ?_
  rintro _ w1 ⟨rfl,hE1⟩
  by_cases hd:(c::r).all digB=true
  ·have d1:decide (Lib.trimS (c::r) digs10=[])=true:=decide_eq_true ((zd6 _).2 hd)
   rw[hd]
   by_cases h48:c=48
   ·have d2:decide ((c.toNat:Int)=48)=true:=by subst h48;rfl
    have d3:decide (c::r=[48])=decide (r=[]):=by subst h48;simp
    rw[decide_eq_true h48,show(!(true && !(true && !decide (r=[]))))=!decide (r=[]) by cases decide (r=[])<;>rfl]
    refine reg [(2,10),(7,15),(11,19)] (an4 d1 d0 d2 d3) ?_
    exact⟨rfl,rfl,vr0,vr0,vr0,hE1⟩
   have d2:decide ((c.toNat:Int)=48)=false:=decide_eq_false fun h=>h48 (UInt8.toNat_inj.1 (by have:(48:UInt8).toNat=48:=rfl;omega))
   rw[decide_eq_false h48]
   refine reg [(2,10),(7,15),(11,19)] (an3 d1 d0 d2) ?_
   exact⟨rfl,rfl,vr0,vr0,vr0,hE1⟩
  have d1:decide (Lib.trimS (c::r) digs10=[])=false:=decide_eq_false fun h=>hd ((zd6 _).1 h)
  simp only[Bool.not_eq_true]at hd
  rw[hd]
  refine reg [(2,10),(7,15),(11,19)] (an2 d1 d0) ?_
  exact⟨rfl,rfl,vr0,vr0,vr0,hE1⟩
 rintro _ σ _ w1 ⟨rfl,rfl,h0,h1,h23,hE1⟩
 unfold decP
 cases hf:zfP s with
 |false=>
  rw[hf]at h23
  refine go (an3 h0 h1 h23) ?_
  refine zaj (.inr rfl) Tryz.ntmps74 rfl (zac (vr0) (zac (vr0) zai)) ?_
  exact⟨rfl,hE1⟩
 |true=>
  rw[hf]at h23
  have hne:s≠ []:=fun h=>by subst h;cases hf
  have had:s.all digB=true:=by
   unfold zfP at hf
   simp only[Bool.and_eq_true]at hf
   exact hf.2.1
  refine go (an3 h0 h1 h23) ?_
  refine rc (an2 h0 h1) (zex (hW.ext hE1) s hne had hs) ?_
  rintro v w2 ⟨hv,hE2⟩
  by_cases hb:valD s≤18446744073709551615
  ·rw[if_pos hb]at hv
   subst hv
   refine re (an2 h0 h1) ?_
   refine go (an2 h0 h1) ?_
   by_cases hle:valD s≤most
   ·have d1:decide ((most:Int)<(valD s:Int))=false:=decide_eq_false (by omega)
    simp only[if_true,if_pos hle]
    refine rq ?_;intro gd K hgd hK
    have hg2:∀n σ b,zau gd n σ (some (2,b))=zan (ev n σ (.tmp 31)) b:=(fun n σ b=>by rw[zad,show gd 2=some 31 from(by rw[hgd];rfl)];rfl)
    try simp only[go_sem]
    rw[show binV Tryz.prog .neq 108 .nilIface .nilIface=Option.none from rfl,zce]
    refine zdR (u:= .nilIface) (b:=false) (by kernel_rfl) (.inl ⟨rfl,rfl⟩) (vr0) rfl ?_
    try simp (disch:=first|omega|assumption|rfl) only[go_sem,h1,d1,↓hg2]
    refine hK _ _ ?_;clear hK hgd;clear K;try clear gd
    refine go d1 ?_
    refine zaj (.inr rfl) Tryz.ntmps74 rfl (zac (vr0) (zac (vr0) zai)) ?_
    exact⟨rfl,hE1.trans hE2⟩
   ·have d1:decide ((most:Int)<(valD s:Int))=true:=decide_eq_true (by omega)
    simp only[if_true,if_neg hle]
    refine rq ?_;intro gd K hgd hK
    have hg2:∀n σ b,zau gd n σ (some (2,b))=zan (ev n σ (.tmp 31)) b:=(fun n σ b=>by rw[zad,show gd 2=some 31 from(by rw[hgd];rfl)];rfl)
    try simp only[go_sem]
    rw[show binV Tryz.prog .neq 108 .nilIface .nilIface=Option.none from rfl,zce]
    refine zdR (u:= .nilIface) (b:=false) (by kernel_rfl) (.inl ⟨rfl,rfl⟩) (vr0) rfl ?_
    try simp (disch:=first|omega|assumption|rfl) only[go_sem,h1,d1,↓hg2]
    refine hK _ _ ?_;clear hK hgd;clear K;try clear gd
    refine go d1 ?_
    refine zaj (.inr rfl) Tryz.ntmps74 rfl (zac (vr0) (zac (vr0) zai)) ?_
    exact⟨rfl,hE1.trans hE2⟩
  ·rw[if_neg hb]at hv
   obtain⟨n,t,p,rfl⟩:=hv
   refine re (an2 h0 h1) ?_
   refine go (an2 h0 h1) ?_
   simp only[if_true,if_neg (show¬valD s≤most by omega)]
   refine rq ?_;intro gd K hgd hK
   have hg2:∀n σ b,zau gd n σ (some (2,b))=zan (ev n σ (.tmp 31)) b:=(fun n σ b=>by rw[zad,show gd 2=some 31 from(by rw[hgd];rfl)];rfl)
   try simp only[go_sem]
   rw[show binV Tryz.prog .neq 108 (.iface t p) .nilIface=Option.none from rfl,zce]
   refine zdR (u:= .iface t p) (b:=true) (by kernel_rfl) (.inr ⟨⟨_,_,rfl⟩,rfl⟩) (vr0) rfl ?_
   try simp (disch:=first|omega|assumption|rfl) only[go_sem,h1,↓hg2]
   refine hK _ _ ?_;clear hK hgd;clear K;try clear gd
   refine go trivial ?_
   refine zaj (.inr rfl) Tryz.ntmps74 rfl (zac (vr0) (zac (vr0) zai)) ?_
   exact⟨rfl,hE1.trans hE2⟩
section
variable {P : Program} {w : World} {K : Value → World → Prop} {t : TypeId} {p v : Value} {A B : Obj}
end
section
variable {P : Program} {d : Option Tmp} {ty : TypeId} {ps : String} {af : Array Edge} {g : Option (Nat × Bool)} {ρ : Operand → Value} {w : World} {K : Value → World → Prop}
end
section
variable {P : Program} {d : Option Tmp} {ty : TypeId} {ps : String} {af : Array Edge} {g : Option (Nat × Bool)} {ρ : Operand → Value} {w : World} {K : Value → World → Prop}
theorem op_max2{x y:Operand}{ts:Array TypeId}{a b:Int}{k:IntKind}(hx:ρ x= .int k a)(hy:ρ y= .int k b)(h:K (.int k (max a b)) w):
  opW P ⟨d,.call ⟨.builtin .max,#[x,y],ts⟩,ty,ps,af,g⟩ ρ w K:=by
 have hr:(Builtin.max_ ts ty #[.int k a,.int k b]).run P w= .ok (.int k (max a b)) w:=by
  have h:=run_max_int2 (P:=P) w ts ty k k a b
  rw[h]
  congr 2
  rw[Int.max_def]
  split<;>split<;>omega
 simp only[opW,execOp,Sem.run_bind,resolve]
 simp only[Sem.run_pure,Result.andThen_ok,invoke,builtin]
 exact zap (s:=Builtin.max_ ts ty (Array.map ρ #[x,y])) (by simpa [hx,hy] using hr) h
end
theorem zeW(m:Nat)(s:Lab):(decP m s).1≤m:=by
 unfold decP
 split
 ·split<;>simp_all
 ·simp
theorem isPow16(w:World):Calls Tryz.prog 235 #[vi 16] w (fun e w'=>e= .returned (.bool true)∧w'=w):=by
 go_enter Tryz.func235,Tryz.ntmps235
 go_wp2
 go_ret
 exact⟨rfl,rfl⟩
section
variable {P : Program} {d : Option Tmp} {ty : TypeId} {ps : String} {af : Array Edge} {g : Option (Nat × Bool)} {ρ : Operand → Value} {w : World} {K : Value → World → Prop}
theorem op_slAl{t e:TypeId}{x y:Operand}{n l:Nat}{a:Addr}{inf:TypeInfo}(ht:P.underlying t=some (.array n e))(hn:n≠0)(hi:P.info? e=some inf)(hs:inf.size=1)(hl:l<n)
  (hx:ρ x= .pointer (some a)) (hy:ρ y=vi l) (h:K (.slice (some (a.add l)) (n - l) (n - l)) w):opW P ⟨d,.slice t x (some y) Option.none Option.none,ty,ps,af,g⟩ ρ w K:=by
 refine zap (s:=Instr.sliceAt t (ρ x) (some (ρ y)) Option.none Option.none) (v:= .slice (some (a.add l)) (n - l) (n - l)) (w':=w) ?_ h
 have e1:=za1 (P:=P) (w:=w) (sl:=false) (n:=n) (c:=n) (lo:=some (vi l)) (hi:=Option.none) (mx:=Option.none) (l:=l) (h:=n) (m:=n) rfl rfl rfl (by omega) (Nat.le_refl _) (Nat.le_refl _) (by simp)
 simp[Instr.sliceAt,underlying,program,Sem.run,ht,hx,hy,Instr.sureAddr,e1,sizeOf,typeInfo,hi,hs,hn]
 omega
end
theorem isPow16F(w:World):Fn Tryz.prog 235 #[vi 16] w (fun v w'=>v= .bool true∧w=w'):=
 Fn.of_calls ((isPow16 w).mono fun _ _ ⟨he,hw⟩=>⟨_,he,rfl,hw.symm⟩)
structure WY(w:World):Prop where
 p10:∃t fr,w.heap[1]? =some (.cells (Lib.pow10Tab.map fun z=>Value.int .u64 z).toArray t fr)
 tz:w.cell? ⟨6,15,Option.none⟩=some (.int .u8 4)
theorem WY.ext{w x:World}(h:WY w)(hE:Ext w x):WY x:=by
 obtain⟨t,fr,h2⟩:=h.p10
 exact⟨⟨t,fr,hE.at h2⟩,zbQ hE h.tz⟩
instance WY.tr:Tr WY:=⟨fun hE h=>h.ext hE⟩
theorem WY.tab{w:World}(h:WY w){name:String}(hn:Tryz.prog.globalNamed name=some 1):Lib.TabIs Tryz.prog w name .u64 Lib.pow10Tab:=by
 obtain⟨t,fr,h⟩:=h.p10
 unfold Lib.TabIs World.var?
 rw[hn,Option.bind_some,h]
theorem ItoaY_ok{w:World}(hW:WY w)(n:Int)(h0: -9223372036854775808≤n)(h1:n≤9223372036854775807):Fn Tryz.prog 82 #[vi n] w (fun v w'=>v=vs (Lib.itoa n)∧Ext w w'):=
 Fn.of_calls (Calls.mono (Any.strconv_Itoa Tryz.laysM171 n h0 h1 w (hW.tab (by kernel_rfl))) fun _ _ ⟨he,k,os,hw⟩=>⟨_,he,rfl,hw▸Ext.grow w k os⟩)
section
variable {P : Program} {d : Option Tmp} {ty : TypeId} {ps : String} {af : Array Edge} {g : Option (Nat × Bool)} {ρ : Operand → Value} {w : World} {K : Value → World → Prop}
theorem zgz{t e:TypeId}{x y:Operand}{n h0:Nat}{a:Addr}{inf:TypeInfo}(ht:P.underlying t=some (.array n e))(hn:n≠0)(hi:P.info? e=some inf)(hs:inf.size=1)(hl:h0≤n)
  (hx:ρ x= .pointer (some a)) (hy:ρ y=vi h0) (h:K (.slice (some a) h0 n) w):opW P ⟨d,.slice t x Option.none (some y) Option.none,ty,ps,af,g⟩ ρ w K:=by
 refine zap (s:=Instr.sliceAt t (ρ x) Option.none (some (ρ y)) Option.none) (v:= .slice (some a) h0 n) (w':=w) ?_ h
 have e1:=za1 (P:=P) (w:=w) (sl:=false) (n:=n) (c:=n) (lo:=Option.none) (hi:=some (vi h0)) (mx:=Option.none) (l:=0) (h:=h0) (m:=n) rfl rfl rfl (by omega) hl (Nat.le_refl _) (by simp)
 simp[Instr.sliceAt,underlying,program,Sem.run,ht,hx,hy,Instr.sureAddr,e1,sizeOf,typeInfo,hi,hs,hn,Addr.add]
end
theorem Small_ok(w:World)(u:Nat)(hu:u<100):Fn Tryz.prog 191 #[vi u] w (fun v w'=>v=vs (Lib.decDigits u)∧w=w'):=
 Fn.of_calls (Calls.mono (Any.internal_strconv_small {Tryz.laysM171 with} u hu w) fun _ _ ⟨he,hw⟩=>⟨_,he,rfl,hw.symm⟩)
theorem zhf{w:World}(hW:WY w)(u:Nat)(h1:1≤u)(h2:u<18446744073709551616):Fn Tryz.prog 192 #[.int .u64 u] w (fun v w'=>v=vi (Lib.nDigits u:Nat)∧w=w'):=
 Fn.of_calls (Calls.mono (Any.internal_strconv_numDigits {Tryz.laysM171 with} u h1 h2 w (hW.tab (by kernel_rfl))) fun _ _ ⟨he,hw⟩=>⟨_,he,rfl,hw.symm⟩)
theorem zhm{w:World}{b:Nat}{T:TypeId}(hA:w.heap[b]? =some (.cells Lib.zeros24 T (0,0)))(u:Nat)(hu1:1≤u)(hu:u<18446744073709551616):
  Fn Tryz.prog 193 #[.slice (some ⟨b,0,Option.none⟩) (Lib.nDigits u) 24,.int .u64 u] w (fun _ w'=>Keep (fun i=>i=b) w w'∧∀j (h:j<(Lib.decDigits u).length),zag w' (some ⟨b,j,Option.none⟩)=some (zak (Lib.decDigits u)[j])):=by
 have hnd20:Lib.nDigits u≤20:=by have:=Lib.numDigits_eq u hu1 hu;split at this<;>omega
 have hH:Go.Sort.Holds (fun (b:UInt8)=>Value.int .u8 (b.toNat:Int)) w b 0 (Array.replicate (Lib.nDigits u) (0:UInt8)):=fun j hj=>by
  have hj':j<Lib.nDigits u:=by simpa using hj
  refine⟨?_,Lib.frozen_of_heap hA _⟩
  rw[Nat.zero_add,getElem!_pos _ j hj]
  have:w.cell? ⟨b,j,Option.none⟩=some (.int .u8 0):=zab hA (Lib.zeros24_at j (by omega))
  rw[this]
  simp
 have hfmt:=Any.internal_strconv_formatBase10 {Tryz.laysM171 with} b 0 24 u (Array.replicate (Lib.nDigits u) 0) w hH (by rw[Array.size_replicate];exact Lib.lt_pow_nDigits u) hu (by rw[Array.size_replicate];omega)
 rw[Array.size_replicate]at hfmt
 refine Fn.of_calls (hfmt.mono ?_)
 rintro e w' ⟨rfl,k,v',dk,rfl,hF⟩
 refine⟨_,rfl,?_,fun j hj=>?_⟩
 ·refine Keep.trans (b:=Go.Sort.putRow (fun (b:UInt8)=>Value.int .u8 (b.toNat:Int)) w b 0 dk) ?_ ((Ext.drewN _ k).mono fun _ _ h=>h.elim)
  refine⟨rfl,rfl,rfl,?_,fun i hi hS=>?_,Nat.le_refl _⟩
  ·show _≤(Array.modify _ _ _).size
   simp
  ·show(Array.modify _ _ _)[i]? =_
   rw[Array.getElem?_modify,if_neg (fun h=>hS h.symm)]
 ·rw[Lib.row_is_numeral hF j hj]
  show World.cell? _ _=_
  rw[World.cell?_drewN,←Nat.zero_add j]
  have:=Go.Sort.cell?_putRow (fun (b:UInt8)=>Value.int .u8 (b.toNat:Int)) w b 0 _ dk hH (by rw[hF.size,Array.size_replicate]) j (by rw[hF.size];rw[Lib.decDigits_length]at hj;exact hj)
  rw[this,Nat.zero_add]
  rfl
theorem zd3{w:World}(hW:WY w)(u:Nat)(hu:u<18446744073709551616):Fn Tryz.prog 122 #[.int .u64 u,vi 10] w (fun v w'=>v=vs (Lib.decDigits u)∧Ext w w'):=by
 refine enter Tryz.func122 Tryz.ntmps122 rfl rfl ?_
 have d1:decide ((10:Int)=10)=true:=rfl
 by_cases h100:u<100
 ·have d2:decide ((u:Int)<100)=true:=decide_eq_true (by omega)
  refine go (an2 d1 d2) ?_
  refine rc trivial (Small_ok w u h100) ?_
  rintro _ _ ⟨rfl,rfl⟩
  refine rgo trivial ?_
  refine rt0 Tryz.ntmps122 ?_
  exact⟨rfl,Keep.refl _ _⟩
 have d2:decide ((u:Int)<100)=false:=decide_eq_false (by omega)
 have hu1:1≤u:=by omega
 have hnd20:Lib.nDigits u≤20:=by have:=Lib.numDigits_eq u hu1 hu;split at this<;>omega
 refine go (an2 d1 d2) ?_
 refine zas ?_
 intro w1 hE1 hs1 hA
 refine rc trivial (zhf (hW.ext hE1) u hu1 hu) ?_
 rintro _ _ ⟨rfl,rfl⟩
 refine rgo trivial ?_
 repeat refine c_r ?_
 refine rq ?_;intro gd K hgd hK
 try simp only[go_sem]
 refine zgz (n:=24) (h0:=Lib.nDigits u) (a:=⟨w.heap.size,0,Option.none⟩) rfl (by decide) rfl rfl (by omega) (vr0) (vr0) ?_
 try simp only[go_sem]
 refine Fn.mono (zhm hA u hu1 hu) ?_
 rintro _ w2 ⟨hk2,hat⟩
 try simp only[go_sem]
 refine hK _ _ ?_;clear hK hgd;clear K;try clear gd
 repeat refine c_r ?_
 refine rq ?_;intro gd K hgd hK
 try simp only[go_sem]
 refine zgz (n:=24) (h0:=Lib.nDigits u) (a:=⟨w.heap.size,0,Option.none⟩) rfl (by decide) rfl rfl (by omega) (vr0) (vr0) ?_
 try simp only[go_sem]
 refine zbn (l:=Lib.decDigits u) (a:=some ⟨w.heap.size,0,Option.none⟩) (c:=24) rfl rfl rfl (by rw[Lib.decDigits_length];first| (simp only[go_sem];done)| (simp only[go_sem];rfl)) (fun j hj=>?_) ?_
 ·rw[za6];simpa [Addr.add] using hat j hj
 try simp only[go_sem]
 refine hK _ _ ?_;clear hK hgd;clear K;try clear gd
 repeat refine c_r ?_
 refine rt0 Tryz.ntmps122 ?_
 exact⟨rfl,Keep.to_ext hE1 rfl (fun b (hb:b=w.heap.size)=>by omega) hk2⟩
theorem zcP{w:World}(hW:WY w)(u:Nat)(hu:u<18446744073709551616):Fn Tryz.prog 60 #[.int .u64 u,vi 10] w (fun v w'=>v=vs (Lib.decDigits u)∧Ext w w'):=by
 refine enter Tryz.func60 Tryz.ntmps60 rfl rfl ?_
 refine go trivial ?_
 refine rc trivial (zd3 hW u hu) ?_
 rintro _ w1 ⟨rfl,hE1⟩
 refine rgo trivial ?_
 refine rt0 Tryz.ntmps60 ?_
 exact⟨rfl,hE1⟩
end Go.Proofs.YtanmnkbccfcagaaGreatDoor
namespace Go.Proofs
open Go.Shelf
def Tryz.lays137_ren:Go.Shelf.Ren:=⟨fun|137=>132|217=>197|266=>239|n=>n,fun|9=>9|5=>5|3=>3|n=>n,fun|n=>n⟩
theorem Tryz.lays137:Go.Proofs.Lays.n137 Tryz.prog Tryz.lays137_ren:={
 mixed:=by kernel_rfl
 f137:=Tryz.func132.trans (congrArg some (by kernel_rfl))
 f217:=Tryz.func197.trans (congrArg some (by kernel_rfl))
 f266:=Tryz.func239.trans (congrArg some (by kernel_rfl))
 t3:=Tryz.underlying3
 a3:=Tryz.isAgg3
 z3:=Tryz.sizeOf3
 v3:=Tryz.zeroValue3
 t5:=Tryz.underlying5
 a5:=Tryz.isAgg5
 z5:=Tryz.sizeOf5
 v5:=Tryz.zeroValue5
 t9:=Tryz.underlying9
 a9:=Tryz.isAgg9
 z9:=Tryz.sizeOf9
 v9:=Tryz.zeroValue9}
end Go.Proofs
namespace Go.Proofs.YtanmnkbccfcagaaGreatDoor
open Go
set_option maxRecDepth 10000
def escB(c:UInt8):List UInt8:=[92,UInt8.ofNat (48+c.toNat / 100),UInt8.ofNat (48+c.toNat / 10 % 10),UInt8.ofNat (48+c.toNat % 10)]
def marksL:List UInt8:=[46,92,34,40,41,59,64,36]
def labB(c:UInt8):List UInt8:=if c.toNat≤32∨127≤c.toNat then escB c else if marksL.contains c then [92,c] else [c]
def zbh(l:Lab):List UInt8:=l.flatMap labB
def zcu(n:Nm):List UInt8:=if n=[] then [46] else n.flatMap fun l=>zbh l++ [46]
theorem zbR{k:Nat}(h:k<256):zak (UInt8.ofNat k)= .int .u8 (k:Int):=by
 unfold zak
 rw[UInt8.toNat_ofNat_of_lt' (by simpa [UInt8.size] using h)]
theorem zck(l:List UInt8)(c:UInt8):decide (0≤Lib.indexByte l c)=l.contains c:=by
 induction l with
 |nil=>rfl
 |cons b l ih=>
  unfold Lib.indexByte
  rw[List.contains_cons]
  by_cases h:b==c
  ·rw[if_pos h]
   have h':b=c:=by simpa using h
   subst h'
   simp
  ·rw[if_neg h]
   have:(c==b)=false:=by
    have h':¬b=c:=by simpa using h
    exact beq_eq_false_iff_ne.2 (fun e=>h' e.symm)
   rw[this,Bool.false_or,←ih]
   have hge:=Lib.indexByte_ge l c
   by_cases h2:(Lib.indexByte l c== -1)=true
   ·rw[if_pos h2]
    have h3:Lib.indexByte l c= -1:=by simpa using h2
    rw[h3]
   ·rw[if_neg h2]
    have h3:Lib.indexByte l c≠ -1:=by simpa using h2
    exact decide_eq_decide.2 ⟨fun _=>by omega,fun _=>by omega⟩
theorem labB_len(c:UInt8):(labB c).length≤4:=by
 unfold labB escB
 by_cases h1:c.toNat≤32∨127≤c.toNat
 ·rw[if_pos h1];exact Nat.le_refl _
 ·rw[if_neg h1]
  by_cases h2:marksL.contains c=true
  ·rw[if_pos h2];exact(by decide:2≤4)
  ·rw[if_neg h2];exact(by decide:1≤4)
theorem zbA(l:Lab):(zbh l).length≤4*l.length:=by
 induction l with
 |nil=>simp[zbh]
 |cons c l ih=>
  have:=labB_len c
  unfold zbh at*
  rw[List.flatMap_cons,List.length_append,List.length_cons];omega
theorem zdu(w:World)(c:UInt8):Fn Tryz.prog 131 #[zak c] w (fun v w'=>v=vs (escB c)∧Ext w w'):=by
 have hc:c.toNat<256:=c.toNat_lt
 obtain⟨n,hn⟩:∃n,c.toNat=n:=⟨_,rfl⟩
 have e0:zak c= .int .u8 (n:Int):=by unfold zak;rw[hn]
 rw[e0]
 rw[hn]at hc
 have h100:¬(100:Int)=0:=by decide
 have h10:¬(10:Int)=0:=by decide
 have e1:((n:Nat):Int).tdiv 100=((n / 100:Nat):Int):=by rw[Int.tdiv_eq_ediv_of_nonneg (by omega)];omega
 have e2:((n:Nat):Int).tdiv 10=((n / 10:Nat):Int):=by rw[Int.tdiv_eq_ediv_of_nonneg (by omega)];omega
 have e3:((n / 10:Nat):Int).tmod 10=((n / 10 % 10:Nat):Int):=by rw[Int.tmod_eq_emod_of_nonneg (by omega)];omega
 have e4:((n:Nat):Int).tmod 10=((n % 10:Nat):Int):=by rw[Int.tmod_eq_emod_of_nonneg (by omega)];omega
 have w1:IntKind.u8.wrap ((n / 100:Nat):Int)=((n / 100:Nat):Int):=zfA (by omega) (by omega)
 have w2:IntKind.u8.wrap ((n / 10:Nat):Int)=((n / 10:Nat):Int):=zfA (by omega) (by omega)
 have w3:IntKind.u8.wrap (48+((n / 100:Nat):Int))=((48+n / 100:Nat):Int):=by rw[zfA (by omega) (by omega)];push_cast;rfl
 have w4:IntKind.u8.wrap (48+((n / 10 % 10:Nat):Int))=((48+n / 10 % 10:Nat):Int):=by rw[zfA (by omega) (by omega)];push_cast;rfl
 have w5:IntKind.u8.wrap (48+((n % 10:Nat):Int))=((48+n % 10:Nat):Int):=by rw[zfA (by omega) (by omega)];push_cast;rfl
 have hl:escB c=[92,UInt8.ofNat (48+n / 100),UInt8.ofNat (48+n / 10 % 10),UInt8.ofNat (48+n % 10)]:=by unfold escB;rw[hn]
 refine enter Tryz.func131 Tryz.ntmps131 rfl rfl ?_
 repeat refine c_r ?_
 refine rg0 ?_
 repeat refine c_r ?_
 refine rq ?_;intro gd K hgd hK
 try simp (disch:=assumption) only[go_sem,b_quo,b_rem,e1,e2,e3,e4,w1,w2,↓w3,↓w4,↓w5]
 refine ze2 (z:= .int .u8 0) (l:=(escB c).map zak) (by rw[hl];rfl) ?_ (by rfl) (by rfl) (by rfl) (by rfl) (fun v hv=>?_) (by rw[hl];simp) ?_
 ·rw[hl]
  simp only[List.map_cons,List.map_nil]
  rw[zbR (by omega),zbR (by omega),zbR (by omega)];rfl
 ·obtain⟨d,_,rfl⟩:=List.mem_map.1 hv;rfl
 intro x1 hX1 hXs hXo
 try simp only[go_sem]
 have hlen4:(escB c).length=4:=rfl
 refine zbn (l:=escB c) rfl rfl rfl (vr0) (fun j hj=>?_) ?_
 ·obtain⟨a,c2,e,hc2,hgt⟩:=hXo.row
  injection e with e1
  have h2:=hgt j (by simpa using hj)
  rw[←e1,List.getElem_map]at h2
  exact h2
 try simp only[go_sem]
 refine hK _ _ ?_;clear hK hgd;clear K;try clear gd
 repeat refine c_r ?_
 refine rt0 Tryz.ntmps131 ?_
 exact⟨rfl,hX1⟩
theorem zeB(w:World)(c:UInt8):Fn Tryz.prog 132 #[vs marksL,zak c] w (fun v w'=>v=vi (Lib.indexByte marksL c)∧w'=w):=
 Fn.of_calls (Calls.mono (Any.strings_IndexByte Tryz.lays137 ⟨marksL.toArray⟩ (c.toNat:Int) w) fun _ _ ⟨he,hw⟩=>⟨_,he,by simp,hw⟩)
theorem Bld.ext'{B:Nat}{w x:World}{b:Nat}{bs:List UInt8}(h:Bld B w b bs)(hE:Ext w x):Bld B x b bs:=by
 obtain⟨p,v,hp,hb,hown⟩:=h.ex
 exact⟨p,v,hp,hE.at hb,hown.ext hE⟩
theorem LText_ok(w:World)(l:Lab)(hl:l.length≤1000000000):Fn Tryz.prog 70 #[vs l] w (fun v w'=>v=vs (zbh l)∧Ext w w'):=by
 refine enter Tryz.func70 Tryz.ntmps70 rfl rfl ?_
 repeat refine c_r ?_
 refine rg0 ?_
 repeat refine c_r ?_
 refine rg0 ?_
 refine zas ?_
 intro w1 hE1 hs1 hA
 repeat refine c_r ?_
 refine rq ?_;intro gd K hgd hK
 try simp only[go_sem]
 refine Fn.mono (zcg _ _ (by omega)) ?_
 rintro _ w3 ⟨hE3,cap,rfl,hit⟩
 try simp only[go_sem]
 refine hK _ _ ?_;clear hK hgd;clear K;try clear gd
 have hA3:=hE3.at hA
 have s3:=hE3.size
 repeat refine c_r ?_
 refine zcF (g:=185) (cap:=cap) (vq0) rfl (hit (fun b=>b=w.heap.size) (fun b hb=>by omega)) (Keep.refl _ _) (Nat.le_refl _) (fun b hb=>by omega)
  (fun x A args h=>by rw[h];rfl)
  (fun pre A=>Ext w A∧Bld (w3.heap.size+2) A w.heap.size (zbh (l.take pre.length)))
  (fun _ _ _=>False) ?_ (fun _ _ _ _ h _=>h.elim) ?_ ?_ ?_ (fun _ _ _ _ _ _ _ h _=>h.elim)
 ·rintro pre A B ⟨h1,p,v,hp,hb,hown⟩ hk
  refine⟨Keep.to_ext h1 rfl (fun b hb=>by unfold two at hb;omega) hk,p,v,hp,(hk.block _ (Array.getElem?_eq_some_iff.1 hb).1 (by unfold two;omega)).trans hb,hown.keep hk (fun b hb h=>by have:=(hown.ge hb).1;unfold two at h;omega)⟩
 ·exact⟨hE1.trans hE3,_,_,.inl rfl,hA3,Own.nil _ _ _⟩
 ·rintro lp pre x suf A args hxs hszA ⟨hEA,hB⟩ rfl
  obtain⟨hk,rfl⟩:=zbl hxs
  dsimp only
  refine rq ?_;intro gd K hgd hK
  try simp only[go_sem]
  refine hK _ _ ?_;clear hK hgd;clear K;try clear gd
  refine zax ?_
  refine⟨rfl,KeepB.refl _ _ _,fun A2 hA2=>?_⟩
  obtain⟨c,hc⟩:∃c,l[pre.length]=c:=⟨_,rfl⟩
  rw[hc]
  have hK2:Bld (w3.heap.size+2) A2 w.heap.size (zbh (l.take pre.length)):=by
   obtain⟨p,v,hp,hb,hown⟩:=hB
   exact⟨p,v,hp,(hA2.block _ (Array.getElem?_eq_some_iff.1 hb).1 (by unfold two;omega)).trans hb,hown.keep hA2 (fun b hb h=>by have:=(hown.ge hb).1;unfold two at h;omega)⟩
  have hE2:Ext w A2:=Keep.to_ext hEA rfl (fun b hb=>by unfold two at hb;omega) hA2
  have hsA2:=hA2.size
  have htl:(zbh (l.take pre.length)).length≤4*l.length:=by
   have h1:=zbA (l.take pre.length)
   rw[List.length_take]at h1;omega
  have htk:zbh (l.take (pre.length+1))=zbh (l.take pre.length)++labB c:=by
   rw[zal hk,hc];unfold zbh;rw[List.flatMap_append];simp
  have fin:∀{z:World} {bs:List UInt8},bs=labB c→Bld (w3.heap.size+2) z w.heap.size (zbh (l.take pre.length)++bs)→Keep (fun i=>i=w.heap.size∨w3.heap.size+2≤i) A2 z→
    (Ext w z∧Bld (w3.heap.size+2) z w.heap.size (zbh (l.take (pre++ [(c,pre.length)]).length)))∧KeepB (w3.heap.size+2) (fun b=>b=w.heap.size) A2 z:=fun {z bs} hbs hBz hkz=>by
   refine⟨⟨Keep.to_ext hE2 rfl (fun b hb=>by omega) hkz,?_⟩,hkz.toB (by omega) (fun i hi h=>by omega)⟩
   rw[List.length_append,List.length_singleton,htk,←hbs];exact hBz
  repeat refine c_r ?_
  refine zat (Q:=fun e σ' ds' v'=>e= .normal∧ds'=[]∧v'=A2∧σ' 5=zak c∧σ' 3= .pointer (some ⟨w.heap.size,0,Option.none⟩)∧σ' 10= .bool (decide (c.toNat≤32∨127≤c.toNat))) ?_ ?_
  ·refine rq ?_;intro gd K hgd hK
   have hg2:∀n σ b,zau gd n σ (some (2,b))=zan (ev n σ (.tmp 13)) b:=(fun n σ b=>by rw[zad,show gd 2=some 13 from(by rw[hgd];rfl)];rfl)
   by_cases c1:(c.toNat:Int)≤32
   ·try simp (disch:=first|omega|assumption|rfl) only[go_sem,zak,decide_eq_true c1,↓hg2]
    refine hK _ _ ?_;clear hK hgd;clear K;try clear gd
    refine⟨rfl,rfl,rfl,by simp only[go_sem,zak],vq0,?_⟩
    rw[show decide (c.toNat≤32∨127≤c.toNat)=true from decide_eq_true (.inl (by omega))]
    simp only[go_sem]
   ·try simp (disch:=first|omega|assumption|rfl) only[go_sem,zak,decide_eq_false c1,↓hg2]
    refine hK _ _ ?_;clear hK hgd;clear K;try clear gd
    refine⟨rfl,rfl,rfl,by simp only[go_sem,zak],vq0,?_⟩
    rw[show decide (c.toNat≤32∨127≤c.toNat)=decide ((127:Int)≤(c.toNat:Int)) from decide_eq_decide.2 ⟨fun h=>by omega,fun h=> .inr (by omega)⟩]
    simp only[go_sem]
  rintro _ σ1 _ v1 ⟨rfl,rfl,hv1,h5,h3,h10⟩
  rw[hv1]
  clear hv1 v1
  repeat refine c_r ?_
  refine zbz (t:=decide (c.toNat≤32∨127≤c.toNat)) ((vq1 h10)) ?_ ?_
  ·intro hcc
   simp only[decide_eq_true_eq]at hcc
   have hlb:labB c=escB c:=by unfold labB;rw[if_pos hcc]
   repeat refine c_r ?_
   refine rq ?_;intro gd K hgd hK
   try simp (disch:=first|omega|assumption|rfl) only[go_sem,h5,h3]
   refine Fn.mono (zdu A2 c) ?_
   rintro _ z1 ⟨rfl,hz1⟩
   try simp (disch:=first|omega|assumption|rfl) only[go_sem,h3]
   have hBz:=hK2.ext' hz1
   refine Fn.mono (zaD hBz (by have:=hz1.size;omega) (by have:(escB c).length=4:=rfl;omega)) ?_
   rintro _ z2 ⟨hBz2,hkz2⟩
   try simp only[go_sem]
   refine hK _ _ ?_;clear hK hgd;clear K;try clear gd
   repeat refine c_r ?_
   exact fin hlb.symm hBz2 ((hz1.mono (fun i _ h=>h.elim)).trans hkz2)
  ·intro hcc
   simp only[decide_eq_false_iff_not]at hcc
   repeat refine c_r ?_
   refine rq ?_;intro gd K hgd hK
   try simp (disch:=first|omega|assumption|rfl) only[go_sem,h5]
   refine Fn.mono (zeB A2 c) ?_
   rintro _ y0 ⟨rfl,hy0⟩
   try simp only[go_sem]
   rw[hy0]
   clear hy0 y0
   refine hK _ _ ?_;clear hK hgd;clear K;try clear gd
   have hhas:=zck marksL c
   have tail:∀{z:World} {σ':Sto} {bs:List UInt8},bs++ [c]=labB c→Bld (w3.heap.size+2) z w.heap.size (zbh (l.take pre.length)++bs)→Keep (fun i=>i=w.heap.size∨w3.heap.size+2≤i) A2 z→σ' 5=zak c→σ' 3= .pointer (some ⟨w.heap.size,0,Option.none⟩)→bs.length≤4→
     Fn Tryz.prog 80 #[.pointer (some ⟨w.heap.size,0,Option.none⟩),zak c] z (fun _ z'=>(Ext w z'∧Bld (w3.heap.size+2) z' w.heap.size (zbh (l.take (pre++ [(c,pre.length)]).length)))∧KeepB (w3.heap.size+2) (fun b=>b=w.heap.size) A2 z'):=fun {z σ' bs} hbs hBz hkz _ _ hb4=>by
    refine Fn.mono (zaC hBz (by have:=hkz.size;omega) (by simp;omega)) ?_
    rintro _ z' ⟨h1,h2⟩
    exact fin hbs (by rw[←List.append_assoc];exact h1) (hkz.trans h2)
   repeat refine c_r ?_
   refine zbz (t:=marksL.contains c) (by rw[←hhas];simp only[go_sem]) ?_ ?_
   ·intro hm
    have hlb:labB c=[92,c]:=by unfold labB;rw[if_neg hcc,if_pos hm]
    repeat refine c_r ?_
    refine rq ?_;intro gd K hgd hK
    try simp (disch:=first|omega|assumption|rfl) only[go_sem,h3]
    refine Fn.mono (zaC (c:=92) hK2 (by omega) (by omega)) ?_
    rintro _ z1 ⟨hBz1,hkz1⟩
    try simp only[go_sem]
    refine hK _ _ ?_;clear hK hgd;clear K;try clear gd
    repeat refine c_r ?_
    refine rq ?_;intro gd K hgd hK
    try simp (disch:=first|omega|assumption|rfl) only[go_sem,h3,h5]
    refine Fn.mono (tail (σ':=σ1) (bs:=[92]) hlb.symm hBz1 hkz1 h5 h3 (by decide)) ?_
    rintro _ z2 hz2
    try simp only[go_sem]
    refine hK _ _ ?_;clear hK hgd;clear K;try clear gd
    repeat refine c_r ?_
    exact hz2
   ·intro hm
    have hlb:labB c=[c]:=by unfold labB;rw[if_neg hcc,if_neg (by rw[hm];exact Bool.false_ne_true)]
    repeat refine c_r ?_
    refine rq ?_;intro gd K hgd hK
    try simp (disch:=first|omega|assumption|rfl) only[go_sem,h3,h5]
    refine Fn.mono (tail (σ':=σ1) (bs:=[]) hlb.symm (by simpa using hK2) (Keep.refl _ _) h5 h3 (by decide)) ?_
    rintro _ z2 hz2
    try simp only[go_sem]
    refine hK _ _ ?_;clear hK hgd;clear K;try clear gd
    repeat refine c_r ?_
    exact hz2
 ·intro A hszA ⟨hEA,hB⟩ hD
  rw[List.take_of_length_le (by simp)]at hB
  have hlt:=zbA l
  repeat refine c_r ?_
  refine rq ?_;intro gd K hgd hK
  try simp only[go_sem]
  refine Fn.mono (zbK hB (by omega)) ?_
  rintro _ z ⟨rfl,hkz⟩
  try simp only[go_sem]
  refine hK _ _ ?_;clear hK hgd;clear K;try clear gd
  repeat refine c_r ?_
  refine zdJ (v:=vs (zbh l)) (.inr rfl) (by rfl) Tryz.ntmps70 (vq0) ((hkz.block _ (by omega) (by omega)).trans hD) ?_
  intro Z hkZ hsZ
  exact⟨rfl,Keep.to_ext (Keep.to_ext hEA rfl (fun b hb=>by omega) hkz) rfl (fun b hb=>by omega) hkZ⟩
def quoB(c:UInt8):Lab:=if c.toNat<32∨126<c.toNat then escB c else if c=34∨c=92 then [92,c] else [c]
def quoL(l:Lab):Lab:=l.flatMap quoB
def quoT(l:Lab):Lab:=34::(quoL l++ [34])
theorem quoB_len(c:UInt8):(quoB c).length≤4:=by
 unfold quoB escB
 split
 ·exact Nat.le_refl _
 ·split
  ·exact(by decide:2≤4)
  ·exact(by decide:1≤4)
theorem zdP(l:Lab):(quoL l).length≤4*l.length:=by
 induction l with
 |nil=>simp[quoL]
 |cons c l ih=>
  have:=quoB_len c
  unfold quoL at*
  rw[List.flatMap_cons,List.length_append,List.length_cons];omega
theorem quote_ok(w:World)(l:Lab)(hl:l.length≤1000000000):Fn Tryz.prog 149 #[vs l] w (fun v w'=>v=vs (quoT l)∧Ext w w'):=by
 refine enter Tryz.func149 Tryz.ntmps149 rfl rfl ?_
 refine go trivial ?_
 refine zas ?_
 intro w1 hE1 hs1 hA
 repeat refine c_r ?_
 refine rq ?_;intro gd K hgd hK
 try simp only[go_sem]
 refine zcY rfl rfl rfl (vr0) ?_
 intro c cur w2 hlc hcs hct hE2 hs2 hb2
 try simp only[go_sem]
 refine hK _ _ ?_;clear hK hgd;clear K;try clear gd
 have hgx:∀i (h:i<l.length),zag w2 (some ⟨w1.heap.size,i,Option.none⟩)=some (zak l[i]):=fun i hi=>by
  refine zab hb2 ?_
  have:(cur.toList.take l.length)[i]? =some (zak l[i]):=by rw[hct,List.getElem?_map,List.getElem?_eq_getElem hi];rfl
  rw[List.getElem?_take,if_pos hi]at this
  simpa using this
 have hE12:=hE1.trans hE2
 have hB0:Bld (w.heap.size+1) w2 w.heap.size []:=⟨_,_,.inl rfl,hE2.at hA,Own.nil _ _ _⟩
 refine go trivial ?_
 refine zcq l.length (fun i σ v=>σ 3= .pointer (some ⟨w.heap.size,0,Option.none⟩)∧σ 7= .slice (some ⟨w1.heap.size,0,Option.none⟩) l.length c∧σ 8=vi l.length∧σ 9=vi i∧Ext w v∧(∀i (h:i<l.length),zag v (some ⟨w1.heap.size,i,Option.none⟩)=some (zak l[i]))∧Bld (w2.heap.size) v w.heap.size (quoL (l.take i))∧w2.heap.size≤v.heap.size) ?_ ?_ ?_
 ·exact⟨vr0,vr0,vr0,vr0,hE12,hgx,⟨⟨_,_,.inl rfl,hE2.at hA,Own.nil _ _ _⟩⟩,Nat.le_refl _⟩
 ·rintro i σ v hi p ⟨s3,s7,s8,s9,hE,hat,hB,hsv⟩
  have g:=hat i hi
  obtain⟨d,hd⟩:∃d,l[i]=d:=⟨_,rfl⟩
  rw[hd]at g
  replace g:zag v (some ⟨w1.heap.size,i,Option.none⟩)=some (.int .u8 (d.toNat:Int)):=g
  have hi0:(0:Int)≤(i:Int):=by omega
  have hi1:(i:Int)<(l.length:Int):=by omega
  have hi2:(i:Int)+1=((i+1:Nat):Int):=by push_cast;rfl
  have htl:(quoL (l.take i)).length≤4*l.length:=by
   have h1:=zdP (l.take i)
   rw[List.length_take]at h1;omega
  have htk:quoL (l.take (i+1))=quoL (l.take i)++quoB d:=by
   rw[zal hi,hd];unfold quoL;rw[List.flatMap_append,List.flatMap_singleton]
  -- one more
  have fin:∀{z:World} {bs:List UInt8},bs=quoB d→Bld w2.heap.size z w.heap.size (quoL (l.take i)++bs)→Keep (fun i=>i=w.heap.size∨w2.heap.size≤i) v z→
    Ext w z∧(∀i (h:i<l.length),zag z (some ⟨w1.heap.size,i,Option.none⟩)=some (zak l[i]))∧Bld (w2.heap.size) z w.heap.size (quoL (l.take (i+1)))∧w2.heap.size≤z.heap.size:=fun {z bs} hbs hBz hkz=>
   ⟨Keep.to_ext hE rfl (fun b hb=>by omega) hkz,fun j hj=>by
    have h1:=hkz.block w1.heap.size (by omega) (by omega)
    have h2:=hat j hj
    show z.cell? _=_
    rw[zbt (a:=⟨w1.heap.size,j,Option.none⟩) h1]
    exact h2,by rw[htk,←hbs];exact hBz,by have:=hkz.size;omega⟩
  refine go (an8 s3 s7 s8 s9 p g Nat.zero_add (an2 hi0 hi1)) ?_
  by_cases c1:(d.toNat:Int)<32
  ·refine rgg [(2,16)] (decide_eq_true c1) ?_
   have hq:quoB d=escB d:=by unfold quoB;rw[if_pos (.inl (by omega))]
   refine go trivial ?_
   refine rc trivial (zdu v d) ?_
   rintro _ v1 ⟨rfl,hEv1⟩
   refine rd s3 (zaD (s:=escB d) (hB.ext' hEv1) (by have:=hEv1.size;omega) (by have:(escB d).length=4:=rfl;omega)) ?_
   rintro _ v2 ⟨hB2,hk2⟩
   refine rgo (an5 s3 s7 s8 s9 hi2) ?_
   obtain⟨f1,f2,f3,f4⟩:=fin hq.symm hB2 ((hEv1.mono fun _ _ h=>h.elim).trans hk2)
   exact⟨rfl,(vq1 s3),(vq1 s7),(vq1 s8),(vq1 hi2),f1,f2,f3,f4⟩
  by_cases c2:(126:Int)<(d.toNat:Int)
  ·refine rgg [(2,16)] (an2 (decide_eq_false c1) (decide_eq_true c2)) ?_
   have hq:quoB d=escB d:=by unfold quoB;rw[if_pos (.inr (by omega))]
   refine go trivial ?_
   refine rc trivial (zdu v d) ?_
   rintro _ v1 ⟨rfl,hEv1⟩
   refine rd s3 (zaD (s:=escB d) (hB.ext' hEv1) (by have:=hEv1.size;omega) (by have:(escB d).length=4:=rfl;omega)) ?_
   rintro _ v2 ⟨hB2,hk2⟩
   refine rgo (an5 s3 s7 s8 s9 hi2) ?_
   obtain⟨f1,f2,f3,f4⟩:=fin hq.symm hB2 ((hEv1.mono fun _ _ h=>h.elim).trans hk2)
   exact⟨rfl,(vq1 s3),(vq1 s7),(vq1 s8),(vq1 hi2),f1,f2,f3,f4⟩
  refine rgg [(2,16)] (an2 (decide_eq_false c1) (decide_eq_false c2)) ?_
  refine go trivial ?_
  by_cases c3:d=34
  ·have hq:quoB d=[92,d]:=by subst c3;rfl
   refine rgg [(2,23)] (show decide ((d.toNat:Int)=34)=true by subst c3;rfl) ?_
   refine go trivial ?_
   refine rc s3 (zaC (c:=92) hB hsv (by omega)) ?_
   rintro _ v1 ⟨hB1,hk1⟩
   refine rgo trivial ?_
   refine rc s3 (zaC (c:=d) hB1 (by have:=hk1.size;omega) (by simp;omega)) ?_
   rintro _ v2 ⟨hB2,hk2⟩
   refine rgo (an5 s3 s7 s8 s9 hi2) ?_
   rw[List.append_assoc]at hB2
   obtain⟨f1,f2,f3,f4⟩:=fin hq.symm hB2 (hk1.trans hk2)
   exact⟨rfl,(vq1 s3),(vq1 s7),(vq1 s8),(vq1 hi2),f1,f2,f3,f4⟩
  have d3:decide ((d.toNat:Int)=34)=false:=decide_eq_false fun h=>c3 (UInt8.toNat_inj.1 (by have:(34:UInt8).toNat=34:=rfl;omega))
  by_cases c4:d=92
  ·have hq:quoB d=[92,d]:=by subst c4;rfl
   refine rgg [(2,23)] (an2 d3 (show decide ((d.toNat:Int)=92)=true by subst c4;rfl)) ?_
   refine go trivial ?_
   refine rc s3 (zaC (c:=92) hB hsv (by omega)) ?_
   rintro _ v1 ⟨hB1,hk1⟩
   refine rgo trivial ?_
   refine rc s3 (zaC (c:=d) hB1 (by have:=hk1.size;omega) (by simp;omega)) ?_
   rintro _ v2 ⟨hB2,hk2⟩
   refine rgo (an5 s3 s7 s8 s9 hi2) ?_
   rw[List.append_assoc]at hB2
   obtain⟨f1,f2,f3,f4⟩:=fin hq.symm hB2 (hk1.trans hk2)
   exact⟨rfl,(vq1 s3),(vq1 s7),(vq1 s8),(vq1 hi2),f1,f2,f3,f4⟩
  have d4:decide ((d.toNat:Int)=92)=false:=decide_eq_false fun h=>c4 (UInt8.toNat_inj.1 (by have:(92:UInt8).toNat=92:=rfl;omega))
  have hq:quoB d=[d]:=by unfold quoB;rw[if_neg (by omega),if_neg (by simp[c3,c4])]
  refine rgg [(2,23)] (an2 d3 d4) ?_
  refine go trivial ?_
  refine rc s3 (zaC (c:=d) hB hsv (by omega)) ?_
  rintro _ v2 ⟨hB2,hk2⟩
  refine rgo (an5 s3 s7 s8 s9 hi2) ?_
  obtain⟨f1,f2,f3,f4⟩:=fin hq.symm hB2 hk2
  exact⟨rfl,(vq1 s3),(vq1 s7),(vq1 s8),(vq1 hi2),f1,f2,f3,f4⟩
 ·rintro σ v p ⟨s3,s7,s8,s9,hE,hat,hB,hsv⟩
  rw[List.take_length]at hB
  have hql:=zdP l
  refine go (an4 s7 s8 s9 p) ?_
  refine rc s3 (zbK hB (by omega)) ?_
  rintro _ v1 ⟨rfl,hk1⟩
  have l1:([34]:Lab).length+(quoL l).length≤9223372036854775807:=by simp;omega
  have l2:(34::quoL l:Lab).length+([34]:Lab).length≤9223372036854775807:=by simp;omega
  refine rgo (an2 l1 l2) ?_
  refine rt0 Tryz.ntmps149 ?_
  exact⟨rfl,Keep.to_ext hE rfl (fun b hb=>by omega) hk1⟩
def zaA(k:Nat)(l:List UInt8):List (List UInt8):=(List.range ((l.length+(k - 1)) / k)).map fun i=>(l.drop (i*k)).take k
def encCh(w0:World)(x:List UInt8)(_:World)(args:Array Value):Prop:=∃v,args=#[v]∧Row w0 v (x.map zak)
theorem zcD(k:Nat)(l:List UInt8):(zaA k l).length=(l.length+(k - 1)) / k:=by unfold zaA;simp
theorem zf1{k:Nat}{l:List UInt8}{i:Nat}(h:i<(zaA k l).length):(zaA k l)[i]=(l.drop (i*k)).take k:=by
 simp[zaA]
theorem zg4{k:Nat}(hk:1≤k){l:List UInt8}{i:Nat}:i<(zaA k l).length↔i*k<l.length:=by
 rw[zcD]
 constructor
 ·intro h
  have h1:(i+1)*k≤l.length+(k - 1):=(Nat.le_div_iff_mul_le (by omega)).1 h
  rw[Nat.add_mul]at h1
  omega
 ·intro h
  have:(i+1)≤(l.length+(k - 1)) / k:=(Nat.le_div_iff_mul_le (by omega)).2 (by rw[Nat.add_mul];omega)
  omega
theorem s_sl3{P:Program}{e:TypeId}{ad:Option Addr}{n c:Nat}{k k' k2:IntKind}{l m x:Int}(h1:0≤l)(h3:l≤m)(h4:m≤x)(h5:x≤(c:Int)):
  slD P (some (.slice e)) (.slice ad n c) (some (.int k l)) (some (.int k' m)) (some (.int k2 x))=
   (bif (P.info? e).isSome then some (.slice (if x.toNat=l.toNat then ad else adr ad (l.toNat*tyS P e)) (m.toNat - l.toNat) (x.toNat - l.toNat)) else Option.none):=by
 have g1:slB (some (Value.int k l))=some l.toNat:=by simp[slB,h1]
 have g2:slH (some (Value.int k' m)) n=some m.toNat:=by simp[slH,show 0≤m by omega]
 have g3:slH (some (Value.int k2 x)) c=some x.toNat:=by simp[slH,show 0≤x by omega]
 unfold slD
 simp only[g1,g2,g3]
 rw[if_pos (by refine⟨by omega,by omega,by omega,fun _=>rfl⟩)]
theorem zg5{w0 W0:World}{n0:Nat}{C:Nat→Prop}{b1 b2 k:Nat}{T1 T2:TypeId}{fr1 fr2:Nat×Nat}{v:Value}{l:List UInt8}(hE0:Ext w0 W0)(hrow:Row w0 v (l.map zak))(h1:W0.heap[b1]? =some (.cells #[v] T1 fr1))(h2:W0.heap[b2]? =some (.cells #[vi k] T2 fr2))
  (hb1:b1<n0) (hb2:b2<n0) (hc1:¬C b1) (hc2:¬C b2) (hC:∀b,C b→w0.heap.size≤b) (hn0:w0.heap.size≤n0) (hk:1≤k) (hk1:k≤1000) (hl:l.length≤1000000):
  Iter Tryz.prog 263 #[.pointer (some ⟨b1,0,Option.none⟩),.pointer (some ⟨b2,0,Option.none⟩)] W0 n0 C (zaA k l) (encCh w0):=by
 intro lp J Jx W hW hnW hJ hJx hY h0
 obtain⟨a,c,rfl,hc,hg⟩:=hrow
 rw[List.length_map]at hc h1
 have cell1:∀{v:World},KeepB n0 C W v→zag v (some ⟨b1,0,Option.none⟩)=some (.slice a l.length c):=fun hk=>zbu hk hb1 hc1 (zab (hW.at h1) rfl)
 have cell2:∀{v:World},KeepB n0 C W v→zag v (some ⟨b2,0,Option.none⟩)=some (vi k):=fun hk=>zbu hk hb2 hc2 (zab (hW.at h2) rfl)
 obtain⟨L,hL⟩:∃L,l.length=L:=⟨_,rfl⟩
 rw[hL]at cell1 hc hl
 refine enter Tryz.func263 Tryz.ntmps263 rfl rfl ?_
 refine go trivial ?_
 refine zaF (fun m σ ds v=>ds=[]∧∃i,i+m=(zaA k l).length∧σ 4=vi (i*k:Nat)∧σ 0= .func (.yield lp) #[] #[]∧σ 1= .pointer (some ⟨b1,0,Option.none⟩)∧σ 2= .pointer (some ⟨b2,0,Option.none⟩)∧J ((zaA k l).take i) v∧KeepB n0 C W v) (zaA k l).length ?_ ?_
 ·exact⟨rfl,0,by omega,by simp only[Nat.zero_mul];first| (simp only[go_sem];done)| (simp only[go_sem];rfl),vr0,vr0,vr0,by simpa using h0,KeepB.refl _ _ _⟩
 rintro m σ ds v ⟨rfl,i,him,h4,f0,f1,f2,hj,hK0⟩
 have p1:=cell1 hK0
 have p2:=cell2 hK0
 have hlt:=zg4 hk (l:=l) (i:=i)
 rw[hL]at hlt
 by_cases hi:i<(zaA k l).length
 ·have hik:=hlt.1 hi
  have d1:decide (((i*k:Nat):Int)<(L:Int))=true:=decide_eq_true (by omega)
  refine go (an6 h4 f0 f1 f2 p1 d1) ?_
  obtain⟨e,he⟩:∃e,min k (L - i*k)=e:=⟨_,rfl⟩
  have hikm:i*k≤1000000:=by omega
  have z:(0:Int)≤((i*k:Nat):Int):=by omega
  have zl:((i*k:Nat):Int)≤(L:Int):=by omega
  have em:min (k:Int) ((L - i*k:Nat):Int)=(e:Int):=by omega
  have hsum:((i*k:Nat):Int)+(e:Int)=((i*k+e:Nat):Int):=by omega
  have hsl:slD Tryz.prog (some (.slice 5)) (.slice a L c) (some (vi (i*k:Nat))) (some (vi (i*k+e:Nat))) (some (vi (i*k+e:Nat)))=some (.slice (adr a (i*k)) e e):=by
   rw[s_sl3 z (by omega) (Int.le_refl _) (by omega)]
   simp only[Int.toNat_natCast,Nat.add_sub_cancel_left]
   rw[if_neg (by omega),show tyS Tryz.prog 5=1 from rfl,Nat.mul_one]
   rfl
  refine zaS (fun _=>false) [(0,true),(1,true),(2,true),(3,true),(4,true),(5,false),(6,true)] NoS mixed (by kernel_rfl) ?_;intro gd K x hgd hx hxe hK;have hx0:=za9 hxe;clear hxe
  have q1:=zaa hx0 p1
  have q2:=zaa hx0 p2
  simp (disch:=first|omega|assumption|rfl) only[go_sem,f1,f2,q1,q2,h4,z,zl]
  refine zdy (vr0) (vr0) ?_
  rw[em]
  refine⟨.inr (Keep.refl _ _),?_⟩
  simp (disch:=first|omega|assumption|rfl) only[go_sem]
  refine hK _ _ ?_;clear hK hgd;clear K;try clear gd
  have hKx:KeepB n0 C W x:=hK0.trans (hx0.toB (by have:=hK0.size;omega) (fun _ _ h=>h.elim))
  repeat refine c_r ?_
  refine rq ?_;intro gd K hgd hK
  try simp (disch:=first|omega|assumption|rfl) only[go_sem,f0,f1,q1,h4,hsum,hsl]
  have hcg:=zf1 hi
  have hel:((l.drop (i*k)).take k).length=e:=by rw[List.length_take,List.length_drop,hL];exact he
  refine Yld.mono (hY ((zaA k l).take i) (zaA k l)[i] ((zaA k l).drop (i+1)) x _ (zcd hi) (hJ _ _ _ hj hx0) hKx ⟨_,rfl,adr a (i*k),e,by rw[hcg,List.length_map,hel],by rw[hcg,List.length_map,hel];exact Nat.le_refl _,fun j hjj=>?_⟩) ?_
  ·rw[hcg,List.length_map,hel]at hjj
   have:=hg (i*k+j) (by rw[List.length_map];omega)
   rw[List.getElem_map]at this
   rw[zd1]
   simp only[hcg,List.getElem_map,List.getElem_take,List.getElem_drop]
   exact this
  rintro u y (⟨rfl,hj',hk'⟩| ⟨rfl,hjx⟩)
  ·try simp only[go_sem]
   refine hK _ _ ?_;clear hK hgd;clear K;try clear gd
   have hK1:=hKx.trans hk'
   have q3:=cell2 hK1
   have hnx:((i*k:Nat):Int)+(k:Int)=(((i+1)*k:Nat):Int):=by rw[Nat.add_mul,Nat.one_mul];omega
   refine go (an5 f0 f1 f2 h4 (an2 q3 hnx)) ?_
   refine⟨m - 1,by omega,rfl,i+1,by omega,(vq1 hnx),(vq1 f0),(vq1 f1),(vq1 f2),?_,hK1⟩
   rw[zal hi];exact hj'
  ·try simp only[go_sem]
   refine hK _ _ ?_;clear hK hgd;clear K;try clear gd
   refine go trivial ?_
   exact za2 (by simp) rfl (.inr ⟨_,_,_,zcd hi,hjx⟩)
 ·have hik:¬i*k<L:=fun h=>hi (hlt.2 h)
  have d1:decide (((i*k:Nat):Int)<(L:Int))=false:=decide_eq_false (by omega)
  refine go (an6 h4 f0 f1 f2 p1 d1) ?_
  refine za2 (by simp) rfl (.inl ?_)
  rw[List.take_of_length_le (by omega)]at hj
  exact hj
theorem Chunk_ok{w0 w:World}(hE0:Ext w0 w){v:Value}{l:List UInt8}(hrow:Row w0 v (l.map zak)){k:Nat}(hk:1≤k)(hk1:k≤1000)(hl:l.length≤1000000):
  Fn Tryz.prog 215 #[v,vi k] w (fun u w'=>Ext w w'∧∃cap,u= .func (.func 263) #[] cap∧
   ∀C:Nat→Prop,(∀b,C b→w0.heap.size≤b∧b<w.heap.size)→Iter Tryz.prog 263 cap w' w'.heap.size C (zaA k l) (encCh w0)):=by
 have hs0:=hE0.size
 obtain⟨a,c,hv,hc,hg⟩:=id hrow
 have d0:decide ((k:Int)<1)=false:=decide_eq_false (by omega)
 refine enter Tryz.func215 Tryz.ntmps215 rfl rfl ?_
 repeat refine c_r ?_
 refine rg0 ?_
 repeat refine c_r ?_
 rw[zaq,hv]
 refine zcr ?_
 intro w2 hE2 hs2 hA1 hA2
 have q2:zag w2 (some ⟨w.heap.size+1,0,Option.none⟩)=some (vi k):=zab hA2 rfl
 refine go (an2 q2 d0) ?_
 refine rt0 Tryz.ntmps215 ?_
 exact⟨hE2,_,rfl,fun C hC=>zg5 (hE0.trans hE2) (hv▸hrow) hA1 hA2 (by omega) (by omega) (fun h=>by have:=hC _ h;omega) (fun h=>by have:=hC _ h;omega) (fun b h=>(hC b h).1) (by omega) hk hk1 hl⟩
def hexS:Lab:=[48,49,50,51,52,53,54,55,56,57,97,98,99,100,101,102]
def hexD(k:Nat):UInt8:=hexS.getD k 0
def hexB(c:UInt8):Lab:=[hexD (c.toNat / 16),hexD (c.toNat % 16)]
def hexT(l:List UInt8):Lab:=l.flatMap hexB
theorem hexS_get{k:Nat}(h:k<hexS.length):hexS[k]=hexD k:=by
 unfold hexD
 rw[List.getD_eq_getElem?_getD,List.getElem?_eq_getElem h];rfl
theorem ix_hex{k:Nat}(h:k<16):ixSD (some .string) (.string ⟨#[48,49,50,51,52,53,54,55,56,57,97,98,99,100,101,102]⟩) (.int .u8 (k:Int))=some (zak (hexD k)):=by
 have h2:((k:Nat):Int).toNat<hexS.length:=by rw[Int.toNat_natCast];exact h
 show ixSD (some .string) (vs hexS) (.int .u8 (k:Int))=_
 rw[zfL (by omega) h2]
 have:hexS[((k:Nat):Int).toNat]'h2=hexD k:=hexS_get h2
 rw[this];rfl
theorem b_and15{P:Program}{t:TypeId}{n:Nat}(h:n<256):binV P .and t (.int .u8 (n:Int)) (.int .u8 15)=some (.int .u8 ((n % 16:Nat):Int)):=by
 have:=(by decide+kernel:∀n,n<256→IntKind.u8.wrap ((BitVec.ofInt 8 ((n:Nat):Int) &&& BitVec.ofInt 8 15).toNat:Int)=((n % 16:Nat):Int)) n h
 show some (Value.int .u8 (IntKind.u8.wrap ((BitVec.ofInt 8 ((n:Nat):Int) &&& BitVec.ofInt 8 15).toNat:Int)))=_
 rw[this]
theorem b_shr4{P:Program}{t:TypeId}{n:Nat}:binV P .shr t (.int .u8 (n:Int)) (.int .u64 4)=some (.int .u8 ((n / 16:Nat):Int)):=by
 show some (Value.int .u8 (Int.fdiv (n:Int) (2 ^ (min (Int.toNat 4) 8))))=_
 have:(2:Int) ^ (min (Int.toNat 4) 8)=((16:Nat):Int):=by decide
 rw[this,Int.fdiv_eq_ediv_of_nonneg _ (by omega)];rfl
theorem zfm(l:List UInt8):(hexT l).length=2*l.length:=by
 induction l with
 |nil=>rfl
 |cons c l ih=>unfold hexT at*;rw[List.flatMap_cons,List.length_append,ih,List.length_cons];simp[hexB];omega
theorem hex_ok{w:World}{v:Value}{l:List UInt8}(h:Row w v (l.map zak))(hl:l.length≤1000000):Fn Tryz.prog 152 #[v] w (fun u w'=>u=vs (hexT l)∧Ext w w'):=by
 obtain⟨a,c,rfl,hc,hg⟩:=h
 rw[List.length_map]at hc
 rw[List.length_map]
 refine enter Tryz.func152 Tryz.ntmps152 rfl rfl ?_
 refine go trivial ?_
 refine zcq l.length (fun i σ x=>σ 6= .slice a l.length c∧σ 7=vi l.length∧σ 8=vi i∧(∃ov,σ 3=ov∧Own w.heap.size x 5 ov ((hexT (l.take i)).map zak))∧Ext w x) ?_ ?_ ?_
 ·exact⟨vr0,vr0,vr0,⟨_,vr0,Own.nil _ _ _⟩,Keep.refl _ _⟩
 ·rintro i σ x hi p ⟨h6,h7,h8,⟨ov,h3,ho⟩,hE⟩
  have g:=zaa hE (hg i (by rw[List.length_map];exact hi))
  rw[List.getElem_map]at g
  obtain⟨xa,rfl⟩:=Option.isSome_iff_exists.1 (zae g)
  obtain⟨k,hk⟩:∃k,l[i].toNat=k:=⟨_,rfl⟩
  have hk256:k<256:=hk▸l[i].toNat_lt
  have g':zag x (adr (some xa) i)=some (.int .u8 (k:Int)):=by rw[g,←hk];rfl
  have hi0:(0:Int)≤(i:Int):=by omega
  have hi1:(i:Int)<(l.length:Int):=by omega
  have hi2:(i:Int)+1=((i+1:Nat):Int):=by push_cast;rfl
  have u1:=ix_hex (k:=k / 16) (by omega)
  have u2:=ix_hex (k:=k % 16) (by omega)
  have ha:=b_and15 (P:=Tryz.prog) (t:=5) hk256
  have hs4:=b_shr4 (P:=Tryz.prog) (t:=5) (n:=k)
  have hs:=hE.size
  obtain⟨ao,co,hov⟩:=ho.slice
  refine go (an8 h6 h7 h8 p hi0 hi1 g' h3) ?_
  refine zaS (fun _=>false) [(0,true),(1,true),(2,true),(3,true),(4,true),(5,true),(6,true),(7,false),(8,false),(9,true)] (zbX w.heap.size) mixed (by kernel_rfl) ?_;intro gd K x hgd hx hxe hK;have hx0:=za9 hxe;clear hxe
  simp (disch:=first|omega|assumption|rfl) only[go_sem,h3,ha,hs4,u1,u2]
  refine bs_two (z:= .int .u8 0) (u:=zak (hexD (k / 16))) (v:=zak (hexD (k % 16))) (by rfl) (by rfl) (by rfl) (by rfl) rfl rfl ?_
  intro y1 hy1 hys1 hyo
  refine⟨.inr hy1.keep,?_⟩
  simp (disch:=first|omega|assumption|rfl) only[go_sem]
  have hsx1:=hx0.size
  obtain⟨inf,hi9,hz,hsz,hby⟩:=info_parts (P:=Tryz.prog) (e:=5) (z:= .int .u8 0) (size:=1) (bytes:=1) (by kernel_rfl)
  have hlk:((hexT (l.take i)).map zak).length≤2000000:=by rw[List.length_map,zfm,List.length_take];omega
  refine zaP (B:=w.heap.size) ((ho.ext hx0).ext hy1) hyo.row (by rfl) hi9 hz hsz hby (by rfl) (vr0) (vr0) (zeh [hexD (k / 16),hexD (k % 16)]) (by simp at hlk ⊢;omega) (by decide) (by have:=hy1.size;omega) ?_
  intro v2 y2 hown2 hE2 hk2' hfr
  refine⟨.inr (hk2'.mono fun b _ hb=>by have:=(ho.ge hb).1;show _≤_;omega),?_⟩
  simp (disch:=first|omega|assumption|rfl) only[go_sem]
  refine hK _ _ ?_;clear hK hgd;clear K;try clear gd
  have hEy:=hE2 w ((hE.trans hx0).trans hy1) (Nat.le_refl _)
  refine go (an3 h6 h7 h8) ?_
  refine⟨rfl,(vq1 h6),(vq1 h7),(vq1 hi2),⟨v2,vr0,?_⟩,hEy⟩
  rw[zal hi]
  unfold hexT
  rw[List.flatMap_append,List.map_append,List.flatMap_singleton]
  unfold hexB
  rw[hk]
  exact hown2
 ·rintro σ x p ⟨h6,h7,h8,⟨ov,h3,ho⟩,hE⟩
  rw[List.take_length]at ho
  obtain⟨ao,co,hov,hcl,hat⟩:=ho.row
  rw[List.length_map]at hov
  refine go (an4 h6 h7 h8 p) ?_
  refine rq ?_;intro gd K hgd hK
  try simp (disch:=first|omega|assumption|rfl) only[go_sem,h3,hov]
  refine zbn (l:=hexT l) rfl rfl rfl (vr0) (fun j hj=>?_) ?_
  ·have:=hat j (by rw[List.length_map];exact hj)
   rw[List.getElem_map]at this
   exact this
  try simp only[go_sem]
  refine hK _ _ ?_;clear hK hgd;clear K;try clear gd
  repeat refine c_r ?_
  refine rt0 Tryz.ntmps152 ?_
  exact⟨rfl,hE⟩
def valB(x:List UInt8):Nat:=x.foldl (fun n c=>n*256+c.toNat) 0
def zcC(fm:Nat→Lab)(k:Nat)(sep:Lab)(raw:List UInt8):Lab:=zeO sep ((zaA k raw).map fun x=>fm (valB x))
theorem zge(x:List UInt8)(c:UInt8):valB (x++ [c])=valB x*256+c.toNat:=by unfold valB;rw[List.foldl_append];rfl
theorem zfp:∀(x:List UInt8) (n k:Nat),n<256 ^ k→x.foldl (fun n c=>n*256+c.toNat) n<256 ^ (k+x.length)
 | [],n,k,h=>h
 |c::x,n,k,h=>by
  have hc:=c.toNat_lt
  have:=zfp x (n*256+c.toNat) (k+1) (by rw[Nat.pow_succ];omega)
  rw[List.foldl_cons,List.length_cons]
  rw[show k+(x.length+1)=k+1+x.length by omega];exact this
theorem zeF{x:List UInt8}{k:Nat}(h:x.length≤k):valB x<256 ^ k:=by
 have:=zfp x 0 0 (by decide)
 rw[Nat.zero_add]at this
 exact Nat.lt_of_lt_of_le this (Nat.pow_le_pow_right (by decide) h)
theorem b_shl8{P:Program}{t:TypeId}{n:Nat}(h:n<72057594037927936):binV P .shl t (.int .u64 (n:Int)) (.int .u64 8)=some (.int .u64 ((n*256:Nat):Int)):=by
 show some (Value.int .u64 (IntKind.u64.wrap ((n:Int)*2 ^ (min (Int.toNat 8) 64))))=_
 have:(2:Int) ^ (min (Int.toNat 8) 64)=((256:Nat):Int):=by decide
 rw[this,←Int.natCast_mul,zcT (by omega) (by omega)]
theorem b_or8{P:Program}{t:TypeId}{n c:Nat}(h:n<72057594037927936)(hc:c<256):binV P .or t (.int .u64 ((n*256:Nat):Int)) (.int .u64 (c:Int))=some (.int .u64 ((n*256+c:Nat):Int)):=by
 show some (Value.int .u64 (IntKind.u64.wrap ((BitVec.ofInt 64 ((n*256:Nat):Int)|||BitVec.ofInt 64 (c:Int)).toNat:Int)))=_
 have e:(BitVec.ofInt 64 ((n*256:Nat):Int)|||BitVec.ofInt 64 (c:Int)).toNat=n*256+c:=by
  rw[BitVec.toNat_or,BitVec.ofInt_natCast,BitVec.ofInt_natCast,BitVec.toNat_ofNat,BitVec.toNat_ofNat,Nat.mod_eq_of_lt (by omega),Nat.mod_eq_of_lt (by omega)]
  have:=Nat.shiftLeft_add_eq_or_of_lt (i:=8) (b:=c) hc n
  rw[Nat.shiftLeft_eq]at this
  exact this.symm
 rw[e,zcT (by omega) (by omega)]
theorem zb3{m:Nat}:∀{l:List Lab},(∀x∈l,x.length≤m)→zaw l≤m*l.length
 | [],_=>Nat.zero_le _
 |x::l,h=>by
  have h1:=zb3 (l:=l) fun y hy=>h y (List.mem_cons_of_mem _ hy)
  have h2:=h x (List.mem_cons_self ..)
  have:zaw (x::l)=x.length+zaw l:=by simp[zaw]
  rw[this,List.length_cons,Nat.mul_succ];omega
theorem zel{w:World}(hW:WY w){cs:List Value}{d:DatL}(hD:DatAt w cs d){k:Nat}(hk:1≤k)(hk2:k≤2){base:Int}{sep:Lab}{fm:Nat→Lab}(hraw:d.raw.length≤2000)(hs1:1≤sep.length)(hs2:sep.length≤1000)(hfm:∀u,u<65536→(fm u).length≤100)
  (hF:∀v u,WY v→u<65536→Fn Tryz.prog 60 #[.int .u64 (u:Nat),vi base] v (fun r v'=>r=vs (fm u)∧Ext v v')):
  Fn Tryz.prog 150 #[.agg cs.toArray,vi k,vi base,vs sep] w (fun u w'=>u=vs (zcC fm k sep d.raw)∧Ext w w'):=by
 obtain⟨nm,nu,tx,rw',rfl,_,_,_,hrow⟩:=hD.ex
 obtain⟨ar,cr,hrv,hcr,_⟩:=id hrow
 refine enter Tryz.func150 Tryz.ntmps150 rfl rfl ?_
 repeat refine c_r ?_
 refine rg0 ?_
 repeat refine c_r ?_
 rw[zaq]
 refine zcr ?_
 intro w1 hE1 hz1 hA hB
 refine rg0 ?_
 repeat refine c_r ?_
 refine zas ?_
 intro w2 hE2 hz2 hC
 have hE12:=hE1.trans hE2
 have hA2:=hE2.at hA
 have hB2:=hE2.at hB
 have q4:zag w2 (some ⟨w.heap.size,4,Option.none⟩)=some rw':=zab hA2 rfl
 rw[hrv]at q4
 rw[hrv]at hrow
 refine rq ?_;intro gd K hgd hK
 try simp (disch:=first|omega|assumption|rfl) only[go_sem,q4,Nat.zero_add]
 refine Fn.mono (Chunk_ok hE12 hrow hk (by omega) (by omega)) ?_
 rintro _ w3 ⟨hE3,cap,rfl,hit⟩
 try simp only[go_sem]
 refine hK _ _ ?_;clear hK hgd;clear K;try clear gd
 repeat refine c_r ?_
 have hE13:=hE12.trans hE3
 have hz3:=hE3.size
 have hC3:=hE3.at hC
 have hcb3:zag w3 (some ⟨w.heap.size+1,0,Option.none⟩)=some (vi base):=zaa hE3 (zab hB2 rfl)
 obtain⟨xs,hxs0⟩:∃xs,zaA k d.raw=xs:=⟨_,rfl⟩
 have hxl:xs.length≤2001:=by
  rw[←hxs0,zcD]
  exact Nat.le_trans (Nat.div_le_self _ _) (by omega)
 have hxk:∀x∈xs,x.length≤2:=fun x hx=>by
  rw[←hxs0]at hx
  unfold zaA at hx
  obtain⟨i,_,rfl⟩:=List.mem_map.1 hx
  rw[List.length_take];omega
 have hxv:∀x∈xs,valB x<65536:=fun x hx=>zeF (k:=2) (hxk x hx)
 rw[hxs0]at hit
 refine zcF (g:=263) (cap:=cap) (vq0) rfl (hit (fun b=>b=w1.heap.size) (fun b hb=>by omega)) (Keep.refl _ _) (Nat.le_refl _) (fun b hb=>by omega)
  (fun x A args h=>by obtain⟨v,h,_⟩:=h;rw[h];rfl)
  (fun pre A=>Ext w A∧zag A (some ⟨w.heap.size+1,0,Option.none⟩)=some (vi base)∧∃sv,A.heap[w1.heap.size]? =some (.cells #[sv] 23 (0,0))∧Own (w3.heap.size+2) A 9 sv (pre.map fun x=>vs (fm (valB x))))
  (fun _ _ _=>False) ?_ (fun _ _ _ _ h _=>h.elim) ?_ ?_ ?_ (fun _ _ _ _ _ _ _ h _=>h.elim)
 ·rintro pre A B ⟨h1,hc,sv,h2,h3⟩ hkk
  refine⟨Keep.to_ext h1 rfl (fun b hb=>by unfold two at hb;omega) hkk,?_,sv,(hkk.block _ (Array.getElem?_eq_some_iff.1 h2).1 (by unfold two;omega)).trans h2,h3.keep hkk (fun b hb h=>by have:=(h3.ge hb).1;unfold two at h;omega)⟩
  show B.cell? _=_
  rw[zbt (a:=⟨w.heap.size+1,0,Option.none⟩) (hkk.block _ (zdZ hc) (by unfold two;show¬(w.heap.size+1=_∨w.heap.size+1=_);omega))]
  exact hc
 ·exact⟨hE13,hcb3,_,hC3,Own.nil _ _ _⟩
 ·rintro lp pre x suf A args hxs hszA ⟨hEA,hcb,sv,hb,hown⟩ ⟨v,rfl,hv⟩
  have hpl:pre.length+1≤xs.length:=by
   have:=congrArg List.length hxs
   simp at this;omega
  have hxm:x∈xs:=by rw[hxs];simp
  have hx2:=hxk x hxm
  refine rq ?_;intro gd K hgd hK
  try simp only[go_sem]
  refine hK _ _ ?_;clear hK hgd;clear K;try clear gd
  refine zax ?_
  refine⟨rfl,KeepB.refl _ _ _,fun Y hY=>?_⟩
  have hbY:=(hY.block _ (Array.getElem?_eq_some_iff.1 hb).1 (by unfold two;omega)).trans hb
  have hEY:Ext w Y:=Keep.to_ext hEA rfl (fun b hb=>by unfold two at hb;omega) hY
  have hcbY:zag Y (some ⟨w.heap.size+1,0,Option.none⟩)=some (vi base):=by
   show Y.cell? _=_
   rw[zbt (a:=⟨w.heap.size+1,0,Option.none⟩) (hY.block _ (zdZ hcb) (by unfold two;show¬(w.heap.size+1=_∨w.heap.size+1=_);omega))]
   exact hcb
  have hownY:=hown.keep hY (fun b hb h=>by have:=(hown.ge hb).1;unfold two at h;omega)
  have hsY:=hY.size
  obtain⟨av,cv,rfl,hcv,hgv⟩:=hv.ext hEY
  rw[List.length_map]at hcv
  rw[show (x.map zak).length=x.length from List.length_map ..]
  have v0:valB (x.take 0)=0:=rfl
  refine go trivial ?_
  refine zat (Q:=fun e σ' ds' v'=>e= .exit 2∧ds'=[]∧σ' 11= .int .u64 (valB x:Nat)∧σ' 9= .pointer (some ⟨w1.heap.size,0,Option.none⟩)∧σ' 6= .pointer (some ⟨w.heap.size+1,0,Option.none⟩)∧Y=v') ?_ ?_
  ·refine zcq x.length (fun i σ v=>σ 19= .slice av x.length cv∧σ 20=vi x.length∧σ 21=vi i∧σ 11= .int .u64 (valB (x.take i):Nat)∧σ 9= .pointer (some ⟨w1.heap.size,0,Option.none⟩)∧σ 6= .pointer (some ⟨w.heap.size+1,0,Option.none⟩)∧Y=v) ?_ ?_ ?_
   ·exact⟨vr0,vr0,vr0,vr0,vr0,vr0,rfl⟩
   ·rintro i σ v hi p ⟨s19,s20,s21,s11,s9,s6,rfl⟩
    have g:=hgv i (by rw[List.length_map];exact hi)
    rw[List.getElem_map]at g
    obtain⟨c,hc⟩:∃c,x[i]=c:=⟨_,rfl⟩
    rw[hc]at g
    replace g:zag Y (adr av i)=some (.int .u8 (c.toNat:Int)):=g
    obtain⟨xa,rfl⟩:=Option.isSome_iff_exists.1 (zae g)
    have hc256:=c.toNat_lt
    obtain⟨n,hn⟩:∃n,valB (x.take i)=n:=⟨_,rfl⟩
    have hn2:n<65536:=hn▸zeF (k:=2) (by rw[List.length_take];omega)
    rw[hn]at s11
    have e1:=b_shl8 (P:=Tryz.prog) (t:=114) (n:=n) (by omega)
    have e2:=b_or8 (P:=Tryz.prog) (t:=114) (n:=n) (c:=c.toNat) (by omega) hc256
    have e3:valB (x.take (i+1))=n*256+c.toNat:=by rw[zal hi,hc,zge,hn]
    have hi0:(0:Int)≤(i:Int):=by omega
    have hi1:(i:Int)<(x.length:Int):=by omega
    have hi2:(i:Int)+1=((i+1:Nat):Int):=by push_cast;rfl
    refine go (an9 s19 s20 s21 s11 s9 s6 p g (an5 hi0 hi1 hi2 e1 e2)) ?_
    exact⟨rfl,(vq1 s19),(vq1 s20),(vq1 hi2),by rw[e3];first| (simp only[go_sem];done)| (simp only[go_sem];rfl),(vq1 s9),(vq1 s6),rfl⟩
   ·rintro σ v p ⟨s19,s20,s21,s11,s9,s6,rfl⟩
    rw[List.take_length]at s11
    refine go (an4 s19 s20 s21 p) ?_
    exact⟨rfl,rfl,(vq1 s11),(vq1 s9),(vq1 s6),rfl⟩
  rintro _ σ1 _ _ ⟨rfl,rfl,s11,s9,s6,rfl⟩
  repeat refine c_r ?_
  have q9:zag Y (some ⟨w1.heap.size,0,Option.none⟩)=some sv:=zab hbY rfl
  have hvx:=hxv x hxm
  obtain⟨NB,hNB⟩:∃NB,w3.heap.size+2=NB:=⟨_,rfl⟩
  have o9:w1.heap.size<NB:=by omega
  have o6:w.heap.size+1<NB:=by omega
  refine zaS (fun i=>i==6) [(0,true),(1,true),(2,true),(3,false),(4,false),(5,false),(6,false)] (zbX NB) mixed (by kernel_rfl) ?_;intro gd K x hgd hx hxe hK;have hx0:=za9 hxe;clear hxe
  have q9x:=zaa hx0 q9
  have q6x:=zaa hx0 hcbY
  have hsx0:=hx0.size
  simp (disch:=first|omega|assumption|rfl) only[go_sem,s11,s9,s6,q9x,q6x]
  refine⟨za3 o9,za3 o6,?_⟩
  refine Fn.mono (hF _ _ (hW.ext (hEY.trans hx0)) hvx) ?_
  rintro _ y0 ⟨rfl,hy0⟩
  refine⟨.inr hy0.keep,?_⟩
  simp (disch:=first|omega|assumption|rfl) only[go_sem]
  refine zbb (z:=vs []) rfl rfl rfl rfl rfl ?_
  intro y1 hy1 hys1 hyo
  refine⟨.inr hy1.keep,?_⟩
  simp (disch:=first|omega|assumption|rfl) only[go_sem]
  have hsy0:=hy0.size
  have hxy1:=(hx0.trans hy0).trans hy1
  refine zaP (e:=9) (hownY.ext hxy1) hyo.row rfl rfl rfl rfl rfl rfl (vr0) (vr0) (fun q hq=>by simp at hq;subst hq;rfl) (by rw[List.length_map];show pre.length+1≤_;omega) (by decide) (by omega) ?_
  intro sv' y2 hown2 hX2 hK2 hb2
  refine⟨.inr (hK2.mono fun b _ hb=>by have:=(hownY.ge hb).1;show _≤_;omega),?_⟩
  simp (disch:=first|omega|assumption|rfl) only[go_sem,s9]
  have hs2:=hK2.size
  have hb2Y:=(hK2.block w1.heap.size (by omega) (fun hh=>by have:=(hownY.ge hh).1;omega)).trans (Ext.at hxy1 hbY)
  refine zay (P:=Tryz.prog) rfl rfl (by obtain⟨a,c,rfl⟩:=hown2.slice;rfl) hb2Y (by simp) (by simp) ?_
  intro y3 hs3' hb3 hk3
  refine⟨.inl rfl,?_⟩
  simp (disch:=first|omega|assumption|rfl) only[go_sem]
  refine hK _ _ ?_;clear hK hgd;clear K;try clear gd
  repeat refine c_r ?_
  refine⟨⟨Keep.to_ext (hX2 w (hEY.trans hxy1) (by omega)) rfl (fun b hb=>by omega) hk3,?_,sv',hb3,?_⟩,?_⟩
  ·have h1:=zaa hxy1 hcbY
   show y3.cell? _=_
   rw[zbt (a:=⟨w.heap.size+1,0,Option.none⟩) (hk3.block _ (by show w.heap.size+1<_;omega) (by show¬w.heap.size+1=_;omega)),zbt (a:=⟨w.heap.size+1,0,Option.none⟩) (hK2.block _ (by show w.heap.size+1<_;omega) (fun hh=>by have h2:w3.heap.size+2≤w.heap.size+1:=(hownY.ge hh).1;omega))]
   exact h1
  ·rw[List.map_append];exact hown2.keep hk3 (fun b hb h=>by have:=(hown2.ge hb).1;omega)
  ·exact(hxy1.toB (by omega) (fun _ _ h=>h.elim)).trans ((hK2.toB (by omega) (fun i hi h=>by have:=(hownY.ge h).1;omega)).trans (hk3.toB (by omega) (fun _ _ h=>h)))
 ·intro A hszA ⟨hEA,hcb,sv,hb,hown⟩ hDf
  have q9:zag A (some ⟨w1.heap.size,0,Option.none⟩)=some sv:=zab hb rfl
  have hr:Row A sv ((xs.map fun x=>fm (valB x)).map vs):=by rw[List.map_map];exact hown.row
  have hln:zaw (xs.map fun x=>fm (valB x))≤100*(xs.map fun x=>fm (valB x)).length:=zb3 fun y hy=>by
   obtain⟨x,hx,rfl⟩:=List.mem_map.1 hy
   exact hfm _ (hxv x hx)
  rw[List.length_map]at hln
  refine go trivial ?_
  refine rc q9 (zhj hr (by rw[List.length_map];omega) hs1 hs2 (by omega)) ?_
  rintro _ A1 ⟨rfl,hEA1⟩
  refine rgo trivial ?_
  refine zdK (.inr rfl) Tryz.ntmps150 rfl (hEA1.at hDf) ?_
  intro Z hkZ hsZ
  refine⟨_,zac (v:=vs (zeO sep (xs.map fun x=>fm (valB x)))) (vr0) zai,?_⟩
  exact⟨by unfold zcC;rw[hxs0];rfl,Keep.to_ext (hEA.trans hEA1) rfl (fun b hb=>by omega) hkZ⟩
theorem itoa_nat(n:Nat):Lib.itoa (n:Int)=Lib.decDigits n:=by
 unfold Lib.itoa
 rw[if_neg (by omega),Int.toNat_natCast]
theorem zdf:∀(k u:Nat),u<10 ^ (k+1)→(Lib.decDigits u).length≤k+1
 |0,u,h=>by
  rw[Lib.decDigits,dif_pos (by omega)];simp
 |k+1,u,h=>by
  rw[Lib.decDigits]
  by_cases h1:u<10
  ·rw[dif_pos h1];simp
  ·rw[dif_neg h1,List.length_append,List.length_singleton]
   have:=zdf k (u / 10) (by rw[Nat.pow_succ]at h;omega)
   omega
def numT(n:Int):Lab:=Lib.decDigits n.toNat
theorem numT_len{n:Int}(h:n≤4294967295):(numT n).length≤20:=by
 unfold numT
 have:=zdf 19 n.toNat (by omega)
 omega
structure VarT(B bv:Nat)(w:World)(L:List Lab):Prop where
 ex:∃sv,w.heap[bv]? =some (.cells #[sv] 23 (0,0))∧Own B w 9 sv (L.map vs)
theorem VarT.ext{B bv:Nat}{w x:World}{L:List Lab}(h:VarT B bv w L)(hE:Ext w x):VarT B bv x L:=by
 obtain⟨sv,h1,h2⟩:=h.ex
 exact⟨sv,hE.at h1,h2.ext hE⟩
theorem zgd{w0 W:World}(hW:WY w0)(hE0:Ext w0 W){d:DatL}{nm nu tx rw':Value}{T:TypeId}{fr:Nat×Nat}{B bd bv:Nat}(hnu:Row w0 nu (d.nums.map v32))(hbd:W.heap[bd]? =some (.cells #[vi d.ty,nm,nu,tx,rw'] T fr))(h0:w0.heap.size≤bv)(hne:bd≠bv)(hdB:bd<B)(hvB:bv<B)(hBW:B≤W.heap.size)
  (hnv:∀n∈d.nums,0≤n∧n≤4294967295) (hnl:d.nums.length≤1000) {L:List Lab} (hL:L.length≤1000000) (hV:VarT B bv W L):
  Fn Tryz.prog 148 #[.pointer (some ⟨bd,0,Option.none⟩),.pointer (some ⟨bv,0,Option.none⟩)] W (fun _ W'=>VarT B bv W' (L++d.nums.map numT)∧Keep (fun i=>i=bv∨B≤i) W W'):=by
 obtain⟨an,cn,rfl,hcn,hgn⟩:=hnu
 rw[List.length_map]at hcn hbd
 have qn:zag W (some ⟨bd,2,Option.none⟩)=some (.slice an d.nums.length cn):=zab hbd rfl
 refine enter Tryz.func148 Tryz.ntmps148 rfl rfl ?_
 refine go (an2 qn (Nat.zero_add 2)) ?_
 refine zcq d.nums.length (fun i σ v=>σ 1= .pointer (some ⟨bv,0,Option.none⟩)∧σ 5= .slice an d.nums.length cn∧σ 6=vi d.nums.length∧σ 7=vi i∧VarT B bv v (L++(d.nums.take i).map numT)∧Keep (fun i=>i=bv∨B≤i) W v) ?_ ?_ ?_
 ·exact⟨vr0,vr0,vr0,vr0,by simpa using hV,Keep.refl _ _⟩
 ·rintro i σ v hi p ⟨s1,s5,s6,s7,hVv,hk⟩
  have hEv:Ext w0 v:=Keep.to_ext hE0 rfl (fun b hb=>by omega) hk
  have hsv:=hk.size
  have g:=zaa hEv (hgn i (by rw[List.length_map];exact hi))
  rw[List.getElem_map]at g
  obtain⟨n,hn⟩:∃n,d.nums[i]=n:=⟨_,rfl⟩
  have hnr:=hnv d.nums[i] (List.getElem_mem hi)
  rw[hn]at g hnr
  obtain⟨u,rfl⟩:∃u:Nat,n=u:=⟨n.toNat,by omega⟩
  obtain⟨xa,rfl⟩:=Option.isSome_iff_exists.1 (zae g)
  have hi0:(0:Int)≤(i:Int):=by omega
  have hi1:(i:Int)<(d.nums.length:Int):=by omega
  have hi2:(i:Int)+1=((i+1:Nat):Int):=by push_cast;rfl
  obtain⟨sv,hb,hown⟩:=hVv.ex
  have qv:zag v (some ⟨bv,0,Option.none⟩)=some sv:=zab hb rfl
  refine go (an7 s1 s5 s6 s7 p g (an2 hi0 hi1)) ?_
  refine zaS (fun i=>i==6) [(0,true),(1,true),(2,true),(3,false),(4,false),(5,false),(6,false)] (zbX B) mixed (by kernel_rfl) ?_;intro gd K x hgd hx hxe hK;have hx0:=za9 hxe;clear hxe
  have qvx:=zaa hx0 qv
  have hsx0:=hx0.size
  simp (disch:=first|omega|assumption|rfl) only[go_sem,s1,qvx]
  refine⟨za3 hvB,?_⟩
  refine Fn.mono (zcP (hW.ext (hEv.trans hx0)) u (by omega)) ?_
  rintro _ y0 ⟨rfl,hy0⟩
  refine⟨.inr hy0.keep,?_⟩
  simp (disch:=first|omega|assumption|rfl) only[go_sem]
  refine zbb (z:=vs []) rfl rfl rfl rfl rfl ?_
  intro y1 hy1 hys1 hyo
  refine⟨.inr hy1.keep,?_⟩
  simp (disch:=first|omega|assumption|rfl) only[go_sem]
  have hsy0:=hy0.size
  have hxy1:=(hx0.trans hy0).trans hy1
  refine zaP (e:=9) (hown.ext hxy1) hyo.row rfl rfl rfl rfl rfl rfl (vr0) (vr0) (fun q hq=>by simp at hq;subst hq;rfl) (by simp;omega) (by decide) (by omega) ?_
  intro sv' y2 hown2 hX2 hK2 hb2
  refine⟨.inr (hK2.mono fun b _ hb=>by have:=(hown.ge hb).1;show _≤_;omega),?_⟩
  simp (disch:=first|omega|assumption|rfl) only[go_sem,s1]
  have hs2:=hK2.size
  have hb2Y:=(hK2.block bv (by omega) (fun hh=>by have:=(hown.ge hh).1;omega)).trans (Ext.at hxy1 hb)
  refine zay (P:=Tryz.prog) rfl rfl (by obtain⟨a,c,rfl⟩:=hown2.slice;rfl) hb2Y (by simp) (by simp) ?_
  intro y3 hs3' hb3 hk3
  refine⟨.inl rfl,?_⟩
  simp (disch:=first|omega|assumption|rfl) only[go_sem]
  refine hK _ _ ?_;clear hK hgd;clear K;try clear gd
  refine go (an5 s1 s5 s6 s7 hi2) ?_
  refine⟨rfl,(vq1 s1),(vq1 s5),(vq1 s6),(vq1 hi2),⟨sv',hb3,?_⟩,?_⟩
  ·rw[show (L++(d.nums.take (i+1)).map numT).map vs=(L++(d.nums.take i).map numT).map vs++ [vs (Lib.decDigits u)] by rw[zal hi,hn];simp[numT]]
   exact hown2.keep hk3 (fun b hb h=>by have:=(hown2.ge hb).1;omega)
  ·exact hk.trans (((hxy1.mono fun _ _ h=>h.elim).trans (hK2.mono fun b _ hb=> .inr (hown.ge hb).1)).trans (hk3.mono fun b _ hb=> .inl hb))
 ·rintro σ v p ⟨s1,s5,s6,s7,hVv,hk⟩
  rw[List.take_length]at hVv
  refine go (an4 s1 s5 s6 (an2 s7 p)) ?_
  exact za2 (by simp) rfl ⟨hVv,hk⟩
theorem zd7(n:Nm):(n.flatMap fun l=>zbh l++ [46]).length≤4*(n.map List.length).sum+n.length:=by
 induction n with
 |nil=>simp
 |cons l n ih=>
  have:=zbA l
  rw[List.flatMap_cons,List.length_append,List.map_cons,List.sum_cons,List.length_cons]
  simp only[List.length_append,List.length_singleton]
  omega
theorem NText_ok(w:World)(nv:Value)(n:Nm)(hn:Row w nv (n.map vs))(hl:∀l∈n,l.length≤1000000)(hnl:n.length≤1000):
  Fn Tryz.prog 61 #[nv] w (fun v w'=>v=vs (zcu n)∧Ext w w'):=by
 obtain⟨an,cn,rfl,hcn,hgn⟩:=hn
 simp only[List.length_map]at hcn hgn
 rw[List.length_map]
 refine enter Tryz.func61 Tryz.ntmps61 rfl rfl ?_
 repeat refine c_r ?_
 refine rg0 ?_
 repeat refine c_r ?_
 refine rg0 ?_
 repeat refine c_r ?_
 refine wc0 ?_ ?_
 ·intro h0
  simp only[decide_eq_true_eq]at h0
  have hn0:n=[]:=List.length_eq_zero_iff.1 (by omega)
  repeat (first|refine c_r ?_|refine rg0 ?_)
  refine rt0 Tryz.ntmps61 ?_
  exact⟨by unfold zcu;rw[if_pos hn0],Keep.refl _ _⟩
 intro h0
 simp only[decide_eq_false_iff_not]at h0
 have hn0:n≠ []:=fun h=>h0 (by rw[h];rfl)
 repeat refine c_r ?_
 refine rg0 ?_
 refine zas ?_
 intro w1 hE1 hs1 hA
 repeat refine c_r ?_
 refine rg0 ?_
 repeat refine c_r ?_
 refine zaF (fun m σ ds A=>ds=[]∧∃(i:Nat),i+m=n.length∧σ 11=vi i∧σ 10=vi n.length∧σ 9= .slice an n.length cn∧σ 3= .pointer (some ⟨w.heap.size,0,Option.none⟩)∧Ext w A∧w1.heap.size≤A.heap.size∧Bld w1.heap.size A w.heap.size ((n.take i).flatMap fun l=>zbh l++ [46])) n.length ?_ ?_
 ·exact⟨rfl,0,by omega,vr0,vq0,vq0,vq0,hE1,Nat.le_refl _,_,_,.inl rfl,hA,Own.nil _ _ _⟩
 rintro m σ ds A ⟨rfl,i,him,h11,h10,h9,h3,hEA,hsA,hB⟩
 repeat refine c_r ?_
 refine rq ?_;intro gd K hgd hK;simp (disch:=first|omega|assumption|rfl) only[go_sem,h11,h10];refine hK _ _ ?_;clear hK hgd;clear K gd
 repeat refine c_r ?_
 refine wc0 ?_ ?_
 ·intro hlt
  simp only[decide_eq_true_eq]at hlt
  have hi:i<n.length:=by omega
  have hi0:(0:Int)≤(i:Int):=by omega
  have hi1:(i:Int)<(n.length:Int):=by omega
  have hi1':(i:Int)+1=((i+1:Nat):Int):=by push_cast;rfl
  have hg:=zaa hEA (hgn i (by simpa using hi))
  rw[List.getElem_map]at hg
  obtain⟨l,hle⟩:∃l,n[i]=l:=⟨_,rfl⟩
  rw[hle]at hg
  have hmem:l∈n:=hle▸List.getElem_mem hi
  obtain⟨xn,rfl⟩:=Option.isSome_iff_exists.1 (zae hg)
  have hpl:((n.take i).flatMap fun l=>zbh l++ [46]).length≤5000000000:=by
   have h1:=zd7 (n.take i)
   have h2:((n.take i).map List.length).sum≤1000000*n.length:=by
    have:∀(k:Nm),(∀l∈k,l.length≤1000000)→(k.map List.length).sum≤1000000*k.length:=fun k=>by
     induction k with
     |nil=>intro _;simp
     |cons x k ih=>
      intro h
      have h3:=ih (fun l hl=>h l (List.mem_cons_of_mem _ hl))
      have h4:=h x (List.mem_cons_self ..)
      rw[List.map_cons,List.sum_cons,List.length_cons];omega
    have h3:=this (n.take i) (fun l hl'=>hl l (List.mem_of_mem_take hl'))
    rw[List.length_take]at h3;omega
   rw[List.length_take]at h1;omega
  have htl:=zbA l
  have hll:=hl l hmem
  have hadd:(zbh l).length+([46]:List UInt8).length≤9223372036854775807:=by rw[List.length_singleton];omega
  repeat refine c_r ?_
  refine rq ?_;intro gd K hgd hK;simp (disch:=first|omega|assumption|rfl) only[go_sem,h9,h11,hi0,hi1,hg];refine hK _ _ ?_;clear hK hgd;clear K gd
  repeat refine c_r ?_
  refine rq ?_;intro gd K hgd hK
  try simp only[go_sem]
  refine Fn.mono (LText_ok A l (by omega)) ?_
  rintro _ A1 ⟨rfl,hE2⟩
  try simp (disch:=first|omega|assumption|rfl) only[go_sem,h3]
  refine Fn.mono (zaD (s:=zbh l++ [46]) (hB.ext' hE2) (by have:=hE2.size;omega) (by rw[List.length_append,List.length_singleton];omega)) ?_
  rintro _ A2 ⟨hB2,hk2⟩
  try simp only[go_sem]
  refine hK _ _ ?_;clear hK hgd;clear K;try clear gd
  repeat refine c_r ?_
  refine rq ?_;intro gd K hgd hK;simp (disch:=first|omega|assumption|rfl) only[go_sem,h11,hi1'];refine hK _ _ ?_;clear hK hgd;clear K gd
  repeat refine c_r ?_
  refine⟨m - 1,by omega,rfl,i+1,by omega,vq0,(vq1 h10),(vq1 h9),(vq1 h3),Keep.to_ext (hEA.trans hE2) rfl (fun b hb=>by omega) hk2,by have:=hE2.size;have:=hk2.size;omega,?_⟩
  rw[zal hi,List.flatMap_append,hle]
  simpa using hB2
 ·intro hge
  simp only[decide_eq_false_iff_not]at hge
  rw[List.take_of_length_le (by omega)]at hB
  have hpl:(n.flatMap fun l=>zbh l++ [46]).length≤5000000000:=by
   have h1:=zd7 n
   have:∀(k:Nm),(∀l∈k,l.length≤1000000)→(k.map List.length).sum≤1000000*k.length:=fun k=>by
    induction k with
    |nil=>intro _;simp
    |cons x k ih=>
     intro h
     have h3:=ih (fun l hl=>h l (List.mem_cons_of_mem _ hl))
     have h4:=h x (List.mem_cons_self ..)
     rw[List.map_cons,List.sum_cons,List.length_cons];omega
   have h3:=this n hl
   omega
  repeat refine c_r ?_
  refine rq ?_;intro gd K hgd hK
  try simp (disch:=first|omega|assumption|rfl) only[go_sem,h3]
  refine Fn.mono (zbK hB (by omega)) ?_
  rintro _ z ⟨rfl,hkz⟩
  try simp only[go_sem]
  refine hK _ _ ?_;clear hK hgd;clear K;try clear gd
  repeat refine c_r ?_
  refine rt0 Tryz.ntmps61 ?_
  exact⟨by unfold zcu;rw[if_neg hn0],Keep.to_ext hEA rfl (fun b hb=>by omega) hkz⟩
theorem zfJ{w:World}{v:Value}{L:List Nm}(h:NamesAt w v L):∃a c,v= .slice a L.length c∧∀i (hi:i<L.length),∃y,zag w (adr a i)=some y∧Row w y (L[i].map vs):=by
 obtain⟨vals,⟨a,c,e,_,hg⟩,hl,hr⟩:=h
 exact⟨a,c,by rw[e,hl],fun i hi=>⟨vals[i]'(by omega),hg i (by omega),hr i (by omega) hi⟩⟩
structure DatS(d:DatL):Prop where
 names:∀n∈d.names,(∀l∈n,l.length≤1000)∧n.length≤1000
 nn:d.names.length≤1000
 nu:d.nums.length≤1000
 nv:∀n∈d.nums,0≤n∧n≤4294967295
 nt:d.texts.length≤1000
 tx:∀t∈d.texts,t.length≤1000
 nr:d.raw.length≤2000
def zcA(d:DatL):List Lab:=d.nums.map numT
def zb2(d:DatL):List Lab:=(if d.ty=15 then zcA d else [])++d.names.map zcu++(if d.ty=15 then [] else zcA d)++d.texts.map quoT
def zd8(fx:Nat→Lab)(d:DatL):List Lab:=
 if d.ty=1 then [zcC Lib.decDigits 1 [46] d.raw] else if d.ty=28 then [zcC fx 2 [58] d.raw] else if (zdX d.ty tyTab).2=true then [] else [[92,35],Lib.itoa (d.raw.length:Nat)]++(if d.raw.length=0 then [] else [hexT d.raw])
def zbY(fx:Nat→Lab)(d:DatL):List Lab:=zb2 d++zd8 fx d
theorem VarT.size{B bv:Nat}{w:World}{L:List Lab}(h:VarT B bv w L):bv<w.heap.size:=by
 obtain⟨sv,h1,_⟩:=h.ex
 exact(Array.getElem?_eq_some_iff.1 h1).1
theorem words_ok{w:World}(hW:WY w){cs:List Value}{d:DatL}(hD:DatAt w cs d)(hS:DatS d){fx:Nat→Lab}(hfx:∀u,u<65536→(fx u).length≤100)
  (hF:∀v u,WY v→u<65536→Fn Tryz.prog 60 #[.int .u64 (u:Nat),vi 16] v (fun r v'=>r=vs (fx u)∧Ext v v')):
  Fn Tryz.prog 87 #[.agg cs.toArray] w (fun u w'=>Row w' u ((zbY fx d).map vs)∧Ext w w'):=by
 obtain⟨nm,nu,tx,rw',rfl,hnm,hnu,htx,hraw⟩:=hD.ex
 obtain⟨an,hann⟩:=zfJ hnm
 obtain⟨cn,hnmv,hgn⟩:=hann
 obtain⟨at',ct,htxv,hct,hgt⟩:=id htx
 obtain⟨ar,cr,hrv,hcr,hgr⟩:=id hraw
 rw[List.length_map]at htxv hrv hct hcr
 refine enter Tryz.func87 Tryz.ntmps87 rfl rfl ?_
 repeat refine c_r ?_
 refine rg0 ?_
 repeat refine c_r ?_
 refine zas ?_
 intro w1 hE1 hz1 hA
 refine rg0 ?_
 repeat refine c_r ?_
 refine zas ?_
 intro w2 hE2 hz2 hV2
 have hE12:=hE1.trans hE2
 have hA2:=hE2.at hA
 obtain⟨bv,hbv⟩:∃bv,w1.heap.size=bv:=⟨_,rfl⟩
 obtain⟨bd,hbd⟩:∃bd,w.heap.size=bd:=⟨_,rfl⟩
 obtain⟨B,hB⟩:∃B,w2.heap.size=B:=⟨_,rfl⟩
 rw[hbv]at hV2 ⊢
 rw[hbd]at hA2 ⊢
 have hVar2:VarT B bv w2 []:=⟨_,hV2,Own.nil _ _ _⟩
 -- what is kept
 have old:∀{v:World},Keep (fun i=>i=bv∨B≤i) w2 v→Ext w v∧v.heap[bd]? =w2.heap[bd]?∧B≤v.heap.size:=fun hk=>
  ⟨Keep.to_ext hE12 rfl (fun b hb=>by omega) hk,hk.block _ (by omega) (by omega),by have:=hk.size;omega⟩
 have q0:∀{v:World},Keep (fun i=>i=bv∨B≤i) w2 v→zag v (some ⟨bd,0,Option.none⟩)=some (vi d.ty)∧zag v (some ⟨bd,1,Option.none⟩)=some (.slice an d.names.length cn)∧zag v (some ⟨bd,3,Option.none⟩)=some (.slice at' d.texts.length ct)∧zag v (some ⟨bd,4,Option.none⟩)=some (.slice ar d.raw.length cr):=fun hk=>by
  have hh:=(old hk).2.1.trans hA2
  exact⟨zab hh rfl,by rw[←hnmv];exact zab hh rfl,by rw[←htxv];exact zab hh rfl,by rw[←hrv];exact zab hh rfl⟩
 -- the closure's call
 have clo:∀{v:World} {L:List Lab},Keep (fun i=>i=bv∨B≤i) w2 v→VarT B bv v L→L.length≤100000→Fn Tryz.prog 148 #[.pointer (some ⟨bd,0,Option.none⟩),.pointer (some ⟨bv,0,Option.none⟩)] v (fun _ v'=>VarT B bv v' (L++zcA d)∧Keep (fun i=>i=bv∨B≤i) w2 v'):=fun {v L} hk hVv hL=>
  Fn.mono (zgd hW (old hk).1 hnu ((old hk).2.1.trans hA2) (by omega) (by omega) (by omega) (by omega) (old hk).2.2 hS.nv hS.nu (by omega) hVv) fun _ _ ⟨h1,h2⟩=>⟨h1,hk.trans h2⟩
 have k2:Keep (fun i=>i=bv∨B≤i) w2 w2:=Keep.refl _ _
 have N1:(zcA d).length≤1000:=by unfold zcA;rw[List.length_map];exact hS.nu
 obtain⟨p0,p1,p3,p4⟩:=q0 k2
 refine go (an2 p0 (Nat.zero_add 1)) ?_
 refine zat (Q:=fun e σ' ds' v'=>e= .normal∧ds'=[]∧σ' 1= .pointer (some ⟨bd,0,Option.none⟩)∧σ' 3= .pointer (some ⟨bv,0,Option.none⟩)∧σ' 4= .func (.func 148) #[] #[.pointer (some ⟨bd,0,Option.none⟩),.pointer (some ⟨bv,0,Option.none⟩)]∧VarT B bv v' (if d.ty=15 then zcA d else [])∧Keep (fun i=>i=bv∨B≤i) w2 v') ?_ ?_
 ·by_cases h15:d.ty=15
  ·rw[if_pos h15]
   refine wt (decide_eq_true h15) ?_
   refine go trivial ?_
   refine rc trivial (clo k2 hVar2 (by simp)) ?_
   rintro _ v ⟨hv1,hv2⟩
   refine rgo trivial ?_
   exact⟨rfl,rfl,vr0,vr0,vr0,by simpa using hv1,hv2⟩
  ·rw[if_neg h15]
   refine wf (decide_eq_false h15) ?_
   refine go trivial ?_
   exact⟨rfl,rfl,vr0,vr0,vr0,hVar2,k2⟩
 rintro _ σ _ v1 ⟨rfl,rfl,s1,s3,s4,hVa,k3⟩
 obtain⟨L0,hL0⟩:∃L0,(if d.ty=15 then zcA d else [])=L0:=⟨_,rfl⟩
 have N0:L0.length≤1000:=by rw[←hL0];split<;>simp[N1]
 rw[hL0]at hVa
 obtain⟨p0,p1,p3,p4⟩:=q0 k3
 refine go (an5 s1 s3 s4 p1 (Nat.zero_add 1)) ?_
 refine zat (Q:=fun e σ' ds' v'=>e= .exit 0∧ds'=[]∧σ' 1= .pointer (some ⟨bd,0,Option.none⟩)∧σ' 3= .pointer (some ⟨bv,0,Option.none⟩)∧σ' 4= .func (.func 148) #[] #[.pointer (some ⟨bd,0,Option.none⟩),.pointer (some ⟨bv,0,Option.none⟩)]∧VarT B bv v' (L0++d.names.map zcu)∧Keep (fun i=>i=bv∨B≤i) w2 v') ?_ ?_
 ·refine zcq d.names.length (fun i σ v=>σ 1= .pointer (some ⟨bd,0,Option.none⟩)∧σ 3= .pointer (some ⟨bv,0,Option.none⟩)∧σ 4= .func (.func 148) #[] #[.pointer (some ⟨bd,0,Option.none⟩),.pointer (some ⟨bv,0,Option.none⟩)]∧σ 16= .slice an d.names.length cn∧σ 17=vi d.names.length∧σ 18=vi i∧VarT B bv v (L0++(d.names.take i).map zcu)∧Keep (fun i=>i=bv∨B≤i) w2 v) ?_ ?_ ?_
  ·exact⟨(vq1 s1),(vq1 s3),(vq1 s4),vr0,vr0,vr0,by simpa using hVa,k3⟩
  ·rintro i σ v hi p ⟨s1,s3,s4,s16,s17,s18,hVv,hk⟩
   obtain⟨hEv,_,hBv⟩:=old hk
   obtain⟨y,gy,hyr⟩:=hgn i hi
   have g:=zaa hEv gy
   obtain⟨n,hn⟩:∃n,d.names[i]=n:=⟨_,rfl⟩
   have hnS:=hS.names d.names[i] (List.getElem_mem hi)
   rw[hn]at hyr hnS
   obtain⟨xa,rfl⟩:=Option.isSome_iff_exists.1 (zae g)
   have hi0:(0:Int)≤(i:Int):=by omega
   have hi1:(i:Int)<(d.names.length:Int):=by omega
   have hi2:(i:Int)+1=((i+1:Nat):Int):=by push_cast;rfl
   have hnn:=hS.nn
   obtain⟨sv,hb,hown⟩:=hVv.ex
   have qv:zag v (some ⟨bv,0,Option.none⟩)=some sv:=zab hb rfl
   obtain⟨ya,yc,hyv,_⟩:=id hyr
   rw[hyv]at g hyr
   refine go (an9 s1 s3 s4 s16 s17 s18 p g (an2 hi0 hi1)) ?_
   refine zaS (fun i=>i==5) [(0,true),(1,true),(2,false),(3,false),(4,false),(5,false)] (zbX B) mixed (by kernel_rfl) ?_;intro gd K x hgd hx hxe hK;have hx0:=za9 hxe;clear hxe
   have qvx:=zaa hx0 qv
   have hsx0:=hx0.size
   simp (disch:=first|omega|assumption|rfl) only[go_sem,s3,qvx]
   refine⟨za3 (by omega),?_⟩
   refine Fn.mono (NText_ok _ _ n (hyr.ext (hEv.trans hx0)) (fun l hl=>by have:=hnS.1 l hl;omega) hnS.2) ?_
   rintro _ y0 ⟨rfl,hy0⟩
   refine⟨.inr hy0.keep,?_⟩
   simp (disch:=first|omega|assumption|rfl) only[go_sem]
   refine zbb (z:=vs []) rfl rfl rfl rfl rfl ?_
   intro y1 hy1 hys1 hyo
   refine⟨.inr hy1.keep,?_⟩
   simp (disch:=first|omega|assumption|rfl) only[go_sem]
   have hsy0:=hy0.size
   have hxy1:=(hx0.trans hy0).trans hy1
   refine zaP (e:=9) (hown.ext hxy1) hyo.row rfl rfl rfl rfl rfl rfl (vr0) (vr0) (fun q hq=>by simp at hq;subst hq;rfl) (by simp;omega) (by decide) (by omega) ?_
   intro sv' y2 hown2 hX2 hK2 hb2
   refine⟨.inr (hK2.mono fun b _ hb=>by have:=(hown.ge hb).1;show _≤_;omega),?_⟩
   simp (disch:=first|omega|assumption|rfl) only[go_sem,s3]
   have hs2:=hK2.size
   have hb2Y:=(hK2.block bv (by omega) (fun hh=>by have:=(hown.ge hh).1;omega)).trans (Ext.at hxy1 hb)
   refine zay (P:=Tryz.prog) rfl rfl (by obtain⟨a,c,rfl⟩:=hown2.slice;rfl) hb2Y (by simp) (by simp) ?_
   intro y3 hs3' hb3 hk3
   refine⟨.inl rfl,?_⟩
   simp (disch:=first|omega|assumption|rfl) only[go_sem]
   refine hK _ _ ?_;clear hK hgd;clear K;try clear gd
   refine go (an7 s1 s3 s4 s16 s17 s18 hi2) ?_
   refine⟨rfl,(vq1 s1),(vq1 s3),(vq1 s4),(vq1 s16),(vq1 s17),(vq1 hi2),⟨sv',hb3,?_⟩,?_⟩
   ·rw[show (L0++(d.names.take (i+1)).map zcu).map vs=(L0++(d.names.take i).map zcu).map vs++ [vs (zcu n)] by rw[zal hi,hn];simp]
    exact hown2.keep hk3 (fun b hb h=>by have:=(hown2.ge hb).1;omega)
   ·exact hk.trans (((hxy1.mono fun _ _ h=>h.elim).trans (hK2.mono fun b _ hb=> .inr (hown.ge hb).1)).trans (hk3.mono fun b _ hb=> .inl hb))
  ·rintro σ v p ⟨s1,s3,s4,s16,s17,s18,hVv,hk⟩
   rw[List.take_length]at hVv
   refine go (an4 s16 s17 s18 p) ?_
   exact⟨rfl,rfl,(vq1 s1),(vq1 s3),(vq1 s4),hVv,hk⟩
 clear k3 hVa s1 s3 s4 p0 p1 p3 p4 σ
 rintro _ σ _ v1 ⟨rfl,rfl,s1,s3,s4,hVa,k3⟩
 obtain⟨L1,hL1⟩:∃L1,L0++d.names.map zcu=L1:=⟨_,rfl⟩
 have N1':L1.length≤2000:=by have:=hS.nn;rw[←hL1];simp;omega
 rw[hL1]at hVa
 obtain⟨p0,p1,p3,p4⟩:=q0 k3
 refine go (an5 s1 s3 s4 p0 (Nat.zero_add 1)) ?_
 refine zat (Q:=fun e σ' ds' v'=>e= .normal∧ds'=[]∧σ' 1= .pointer (some ⟨bd,0,Option.none⟩)∧σ' 3= .pointer (some ⟨bv,0,Option.none⟩)∧VarT B bv v' (L1++(if d.ty=15 then [] else zcA d))∧Keep (fun i=>i=bv∨B≤i) w2 v') ?_ ?_
 ·by_cases h15:d.ty=15
  ·rw[if_pos h15]
   refine wf (show(!decide (d.ty=15))=false by rw[decide_eq_true h15];rfl) ?_
   refine go trivial ?_
   exact⟨rfl,rfl,(vq1 s1),(vq1 s3),by simpa using hVa,k3⟩
  ·rw[if_neg h15]
   refine wt (show(!decide (d.ty=15))=true by rw[decide_eq_false h15];rfl) ?_
   refine go (an3 s1 s3 s4) ?_
   refine rc s4 (clo k3 hVa (by omega)) ?_
   rintro _ v ⟨hv1,hv2⟩
   refine rgo trivial ?_
   exact⟨rfl,rfl,(vq1 s1),(vq1 s3),hv1,hv2⟩
 clear k3 hVa s1 s3 s4 p0 p1 p3 p4 σ
 rintro _ σ _ v1 ⟨rfl,rfl,s1,s3,hVa,k3⟩
 obtain⟨L2,hL2⟩:∃L2,L1++(if d.ty=15 then [] else zcA d)=L2:=⟨_,rfl⟩
 have N2:L2.length≤3000:=by
  have h1:(if d.ty=15 then([]:List Lab) else zcA d).length≤1000:=by
   split
   ·exact Nat.zero_le _
   ·exact N1
  rw[←hL2,List.length_append];omega
 rw[hL2]at hVa
 obtain⟨p0,p1,p3,p4⟩:=q0 k3
 refine go (an4 s1 s3 p3 (Nat.zero_add 3)) ?_
 refine zat (Q:=fun e σ' ds' v'=>e= .exit 2∧ds'=[]∧σ' 1= .pointer (some ⟨bd,0,Option.none⟩)∧σ' 3= .pointer (some ⟨bv,0,Option.none⟩)∧VarT B bv v' (L2++d.texts.map quoT)∧Keep (fun i=>i=bv∨B≤i) w2 v') ?_ ?_
 ·refine zcq d.texts.length (fun i σ v=>σ 1= .pointer (some ⟨bd,0,Option.none⟩)∧σ 3= .pointer (some ⟨bv,0,Option.none⟩)∧σ 34= .slice at' d.texts.length ct∧σ 35=vi d.texts.length∧σ 36=vi i∧VarT B bv v (L2++(d.texts.take i).map quoT)∧Keep (fun i=>i=bv∨B≤i) w2 v) ?_ ?_ ?_
  ·exact⟨(vq1 s1),(vq1 s3),vr0,vr0,vr0,by simpa using hVa,k3⟩
  ·rintro i σ v hi p ⟨s1,s3,s16,s17,s18,hVv,hk⟩
   obtain⟨hEv,_,hBv⟩:=old hk
   have g:=zaa hEv (hgt i (by rw[List.length_map];exact hi))
   rw[List.getElem_map]at g
   obtain⟨n,hn⟩:∃n,d.texts[i]=n:=⟨_,rfl⟩
   have hnS:=hS.tx d.texts[i] (List.getElem_mem hi)
   rw[hn]at g hnS
   obtain⟨xa,rfl⟩:=Option.isSome_iff_exists.1 (zae g)
   have hi0:(0:Int)≤(i:Int):=by omega
   have hi1:(i:Int)<(d.texts.length:Int):=by omega
   have hi2:(i:Int)+1=((i+1:Nat):Int):=by push_cast;rfl
   have hnn:=hS.nt
   obtain⟨sv,hb,hown⟩:=hVv.ex
   have qv:zag v (some ⟨bv,0,Option.none⟩)=some sv:=zab hb rfl
   refine go (an8 s1 s3 s16 s17 s18 p g (an2 hi0 hi1)) ?_
   refine zaS (fun i=>i==5) [(0,true),(1,true),(2,false),(3,false),(4,false),(5,false)] (zbX B) mixed (by kernel_rfl) ?_;intro gd K x hgd hx hxe hK;have hx0:=za9 hxe;clear hxe
   have qvx:=zaa hx0 qv
   have hsx0:=hx0.size
   simp (disch:=first|omega|assumption|rfl) only[go_sem,s3,qvx]
   refine⟨za3 (by omega),?_⟩
   refine Fn.mono (quote_ok _ n (by omega)) ?_
   rintro _ y0 ⟨rfl,hy0⟩
   refine⟨.inr hy0.keep,?_⟩
   simp (disch:=first|omega|assumption|rfl) only[go_sem]
   refine zbb (z:=vs []) rfl rfl rfl rfl rfl ?_
   intro y1 hy1 hys1 hyo
   refine⟨.inr hy1.keep,?_⟩
   simp (disch:=first|omega|assumption|rfl) only[go_sem]
   have hsy0:=hy0.size
   have hxy1:=(hx0.trans hy0).trans hy1
   refine zaP (e:=9) (hown.ext hxy1) hyo.row rfl rfl rfl rfl rfl rfl (vr0) (vr0) (fun q hq=>by simp at hq;subst hq;rfl) (by simp;omega) (by decide) (by omega) ?_
   intro sv' y2 hown2 hX2 hK2 hb2
   refine⟨.inr (hK2.mono fun b _ hb=>by have:=(hown.ge hb).1;show _≤_;omega),?_⟩
   simp (disch:=first|omega|assumption|rfl) only[go_sem,s3]
   have hs2:=hK2.size
   have hb2Y:=(hK2.block bv (by omega) (fun hh=>by have:=(hown.ge hh).1;omega)).trans (Ext.at hxy1 hb)
   refine zay (P:=Tryz.prog) rfl rfl (by obtain⟨a,c,rfl⟩:=hown2.slice;rfl) hb2Y (by simp) (by simp) ?_
   intro y3 hs3' hb3 hk3
   refine⟨.inl rfl,?_⟩
   simp (disch:=first|omega|assumption|rfl) only[go_sem]
   refine hK _ _ ?_;clear hK hgd;clear K;try clear gd
   refine go (an6 s1 s3 s16 s17 s18 hi2) ?_
   refine⟨rfl,(vq1 s1),(vq1 s3),(vq1 s16),(vq1 s17),(vq1 hi2),⟨sv',hb3,?_⟩,?_⟩
   ·rw[show (L2++(d.texts.take (i+1)).map quoT).map vs=(L2++(d.texts.take i).map quoT).map vs++ [vs (quoT n)] by rw[zal hi,hn];simp]
    exact hown2.keep hk3 (fun b hb h=>by have:=(hown2.ge hb).1;omega)
   ·exact hk.trans (((hxy1.mono fun _ _ h=>h.elim).trans (hK2.mono fun b _ hb=> .inr (hown.ge hb).1)).trans (hk3.mono fun b _ hb=> .inl hb))
  ·rintro σ v p ⟨s1,s3,s16,s17,s18,hVv,hk⟩
   rw[List.take_length]at hVv
   refine go (an4 s16 s17 s18 p) ?_
   exact⟨rfl,rfl,(vq1 s1),(vq1 s3),hVv,hk⟩
 clear k3 hVa s1 s3 p0 p1 p3 p4 σ
 rintro _ σ _ v1 ⟨rfl,rfl,s1,s3,hVa,k3⟩
 have hfr:zb2 d=L2++d.texts.map quoT:=by unfold zb2;rw[←hL2,←hL1,←hL0]
 rw[←hfr]at hVa
 have N3:(zb2 d).length≤4000:=by have:=hS.nt;rw[hfr];simp;omega
 obtain⟨p0,p1,p3,p4⟩:=q0 k3
 obtain⟨hEv,hbdv,hBv⟩:=old k3
 obtain⟨sv,hb,hown⟩:=hVa.ex
 have qv:zag v1 (some ⟨bv,0,Option.none⟩)=some sv:=zab hb rfl
 have hcs:zaB v1 (some ⟨bd,0,Option.none⟩) 5=some [vi d.ty,nm,nu,tx,rw']:=zam (n:=5) (hbdv.trans hA2) rfl
 have hWv:=hW.ext hEv
 have o1:bd<B:=by omega
 have o2:bv<B:=by omega
 by_cases h1:d.ty=1
 ·refine go (an5 s1 s3 p0 (decide_eq_true h1) (Nat.zero_add 0)) ?_
  ·refine zaS (fun _=>false) [(0,true),(1,true),(2,false),(3,false),(4,false),(5,true)] (zbX B) mixed (by kernel_rfl) ?_;intro gd K x hgd hx hxe hK;have hx0:=za9 hxe;clear hxe
   have qvx:=zaa hx0 qv
   have csx:=zaf hx0 hcs
   simp (disch:=first|omega|assumption|rfl) only[go_sem,s1,s3,qvx,csx]
   refine⟨za3 o2,za3 o1,?_⟩
   refine Fn.mono (zel (hWv.ext hx0) (hD.ext (hEv.trans hx0)) (k:=1) (base:=10) (sep:=[46]) (fm:=Lib.decDigits) (by decide) (by decide) hS.nr (by decide) (by decide) (fun u hu=>by have:=zdf 4 u (by omega);omega) (fun v u hv hu=>zcP hv u (by omega))) ?_
   rintro _ y0 ⟨rfl,hy0⟩
   refine⟨.inr hy0.keep,?_⟩
   simp (disch:=first|omega|assumption|rfl) only[go_sem]
   refine zbb (z:=vs []) rfl rfl rfl rfl rfl ?_
   intro y1 hy1 hys1 hyo
   refine⟨.inr hy1.keep,?_⟩
   simp (disch:=first|omega|assumption|rfl) only[go_sem]
   have hsy0:=hy0.size
   have hsx0:=hx0.size
   have hxy1:=(hx0.trans hy0).trans hy1
   refine zaP (e:=9) (hown.ext hxy1) hyo.row rfl rfl rfl rfl rfl rfl (vr0) (vr0) (fun q hq=>by simp at hq;subst hq;rfl) (by simp;omega) (by decide) (by omega) ?_
   intro sv' y2 hown2 hX2 hK2 hb2
   refine⟨.inr (hK2.mono fun b _ hb=>by have:=(hown.ge hb).1;show _≤_;omega),?_⟩
   simp (disch:=first|omega|assumption|rfl) only[go_sem]
   refine hK _ _ ?_;clear hK hgd;clear K;try clear gd
   refine go trivial ?_
   refine rt0 Tryz.ntmps87 ?_
   refine⟨?_,hX2 w (hEv.trans hxy1) (by omega)⟩
   unfold zbY zd8
   rw[if_pos h1,List.map_append]
   exact hown2.row
 have d1:decide (d.ty=1)=false:=decide_eq_false h1
 by_cases h28:d.ty=28
 ·refine go (an6 s1 s3 p0 d1 (decide_eq_true h28) (Nat.zero_add 0)) ?_
  ·refine zaS (fun _=>false) [(0,true),(1,true),(2,false),(3,false),(4,false),(5,true)] (zbX B) mixed (by kernel_rfl) ?_;intro gd K x hgd hx hxe hK;have hx0:=za9 hxe;clear hxe
   have qvx:=zaa hx0 qv
   have csx:=zaf hx0 hcs
   simp (disch:=first|omega|assumption|rfl) only[go_sem,s1,s3,qvx,csx]
   refine⟨za3 o2,za3 o1,?_⟩
   refine Fn.mono (zel (hWv.ext hx0) (hD.ext (hEv.trans hx0)) (k:=2) (base:=16) (sep:=[58]) (fm:=fx) (by decide) (by decide) hS.nr (by decide) (by decide) hfx hF) ?_
   rintro _ y0 ⟨rfl,hy0⟩
   refine⟨.inr hy0.keep,?_⟩
   simp (disch:=first|omega|assumption|rfl) only[go_sem]
   refine zbb (z:=vs []) rfl rfl rfl rfl rfl ?_
   intro y1 hy1 hys1 hyo
   refine⟨.inr hy1.keep,?_⟩
   simp (disch:=first|omega|assumption|rfl) only[go_sem]
   have hsy0:=hy0.size
   have hsx0:=hx0.size
   have hxy1:=(hx0.trans hy0).trans hy1
   refine zaP (e:=9) (hown.ext hxy1) hyo.row rfl rfl rfl rfl rfl rfl (vr0) (vr0) (fun q hq=>by simp at hq;subst hq;rfl) (by simp;omega) (by decide) (by omega) ?_
   intro sv' y2 hown2 hX2 hK2 hb2
   refine⟨.inr (hK2.mono fun b _ hb=>by have:=(hown.ge hb).1;show _≤_;omega),?_⟩
   simp (disch:=first|omega|assumption|rfl) only[go_sem]
   refine hK _ _ ?_;clear hK hgd;clear K;try clear gd
   refine go trivial ?_
   refine rt0 Tryz.ntmps87 ?_
   refine⟨?_,hX2 w (hEv.trans hxy1) (by omega)⟩
   unfold zbY zd8
   rw[if_neg h1,if_pos h28,List.map_append]
   exact hown2.row
 have d28:decide (d.ty=28)=false:=decide_eq_false h28
 refine go (an6 s1 s3 p0 d1 d28 (Nat.zero_add 0)) ?_
 refine rc (an3 s1 p0 (Nat.zero_add 0)) (zhc v1 d.ty) ?_
 rintro _ v2 ⟨rfl,hE2'⟩
 have hb':=hE2'.at hb
 have qv2:zag v2 (some ⟨bv,0,Option.none⟩)=some sv:=zab hb' rfl
 have hs2v:=hE2'.size
 cases hkn:(zdX d.ty tyTab).2 with
 |true=>
  refine rgo (an2 s3 qv2) ?_
  refine rt0 Tryz.ntmps87 ?_
  refine⟨?_,hEv.trans hE2'⟩
  unfold zbY zd8
  rw[if_neg h1,if_neg h28,if_pos hkn,List.append_nil]
  exact(hown.ext hE2').row
 |false=>
 have p4':=zaa hE2' p4
 refine rgo (an2 s1 s3) ?_
 have k4:Keep (fun i=>i=bv∨B≤i) w2 v2:=k3.trans (hE2'.mono fun _ _ h=>h.elim)
 have hVb:VarT B bv v2 (zb2 d):=hVa.ext hE2'
 have hnr:=hS.nr
 refine zat (Q:=fun e σ' ds' v'=>e= .normal∧ds'=[]∧σ' 1= .pointer (some ⟨bd,0,Option.none⟩)∧σ' 3= .pointer (some ⟨bv,0,Option.none⟩)∧VarT B bv v' (zb2 d++ [[92,35],Lib.itoa (d.raw.length:Nat)])∧Keep (fun i=>i=bv∨B≤i) w2 v') ?_ ?_
 ·obtain⟨hEv,_,hBv⟩:=old k4
  have hown:=hown.ext hE2'
  refine zaS (fun i=>i==7) [(0,true),(1,true),(2,true),(3,true),(4,false),(5,false),(6,false),(7,false)] (zbX B) mixed (by kernel_rfl) ?_;intro gd K x hgd hx hxe hK;have hx0:=za9 hxe;clear hxe
  have qvx:=zaa hx0 qv2
  have p4x:=zaa hx0 p4'
  have hsx0:=hx0.size
  simp (disch:=first|omega|assumption|rfl) only[go_sem,s1,s3,qvx,p4x,Nat.zero_add]
  refine⟨za3 o2,za3 o1,?_⟩
  refine Fn.mono (ItoaY_ok (hW.ext (hEv.trans hx0)) (d.raw.length:Nat) (by omega) (by omega)) ?_
  rintro _ y0 ⟨rfl,hy0⟩
  refine⟨.inr hy0.keep,?_⟩
  simp (disch:=first|omega|assumption|rfl) only[go_sem]
  refine bs_two (z:=vs []) (u:=vs [92,35]) (v:=vs (Lib.itoa (d.raw.length:Nat))) rfl rfl rfl rfl rfl rfl ?_
  intro y1 hy1 hys1 hyo
  refine⟨.inr hy1.keep,?_⟩
  simp (disch:=first|omega|assumption|rfl) only[go_sem]
  have hsy0:=hy0.size
  have hxy1:=(hx0.trans hy0).trans hy1
  refine zaP (e:=9) (hown.ext hxy1) hyo.row rfl rfl rfl rfl rfl rfl (vr0) (vr0) (fun q hq=>by simp at hq;rcases hq with rfl|rfl<;>rfl) (by simp;omega) (by decide) (by omega) ?_
  intro sv' y2 hown2 hX2 hK2 hb2
  refine⟨.inr (hK2.mono fun b _ hb=>by have:=(hown.ge hb).1;show _≤_;omega),?_⟩
  simp (disch:=first|omega|assumption|rfl) only[go_sem,s3]
  have hs2:=hK2.size
  have hb2Y:=(hK2.block bv (by omega) (fun hh=>by have:=(hown.ge hh).1;omega)).trans (Ext.at hxy1 hb')
  refine zay (P:=Tryz.prog) rfl rfl (by obtain⟨a,c,rfl⟩:=hown2.slice;rfl) hb2Y (by simp) (by simp) ?_
  intro y3 hs3' hb3 hk3
  refine⟨.inl rfl,?_⟩
  simp (disch:=first|omega|assumption|rfl) only[go_sem]
  refine hK _ _ ?_;clear hK hgd;clear K;try clear gd
  refine⟨rfl,rfl,(vq1 s1),(vq1 s3),⟨sv',hb3,?_⟩,?_⟩
  ·rw[List.map_append]
   exact hown2.keep hk3 (fun b hb h=>by have:=(hown2.ge hb).1;omega)
  ·exact k4.trans (((hxy1.mono fun _ _ h=>h.elim).trans (hK2.mono fun b _ hb=> .inr (hown.ge hb).1)).trans (hk3.mono fun b _ hb=> .inl hb))
 clear hVb k4 p4' qv2 qv hb hb' s1 s3 p0 p1 p3 p4
 rintro _ σ _ v3 ⟨rfl,rfl,s1,s3,hVb,k4⟩
 obtain⟨p0,p1,p3,p4⟩:=q0 k4
 obtain⟨hEv3,_,hBv3⟩:=old k4
 obtain⟨sv3,hb,hown⟩:=hVb.ex
 have qv:zag v3 (some ⟨bv,0,Option.none⟩)=some sv3:=zab hb rfl
 have hwd:∀r,(d.raw.length=0→r=[])→(d.raw.length≠0→r=[hexT d.raw])→zbY fx d=(zb2 d++ [[92,35],Lib.itoa (d.raw.length:Nat)])++r:=fun r h0 h3=>by
  unfold zbY zd8
  rw[if_neg h1,if_neg h28,if_neg (by rw[hkn];decide),List.append_assoc]
  by_cases hz:d.raw.length=0
  ·rw[if_pos hz,h0 hz]
  ·rw[if_neg hz,h3 hz]
 by_cases hz:d.raw.length=0
 ·refine go (an6 s1 s3 p4 qv (show decide ((0:Int)<(d.raw.length:Int))=false from decide_eq_false (by omega)) (Nat.zero_add 4)) ?_
  refine rt0 Tryz.ntmps87 ?_
  refine⟨?_,hEv3⟩
  rw[hwd [] (fun _=>rfl) (fun h=>absurd hz h),List.append_nil]
  exact hown.row
 ·refine go (an6 s1 s3 p4 qv (show decide ((0:Int)<(d.raw.length:Int))=true from decide_eq_true (by omega)) (Nat.zero_add 4)) ?_
  refine zaS (fun i=>i==6) [(0,true),(1,true),(2,true),(3,false),(4,false),(5,false),(6,false)] (zbX B) mixed (by kernel_rfl) ?_;intro gd K x hgd hx hxe hK;have hx0:=za9 hxe;clear hxe
  have qvx:=zaa hx0 qv
  have p4x:=zaa hx0 p4
  have hsx0:=hx0.size
  simp (disch:=first|omega|assumption|rfl) only[go_sem,s1,s3,qvx,p4x,Nat.zero_add]
  refine⟨za3 o2,za3 o1,?_⟩
  refine Fn.mono (hex_ok (l:=d.raw) (hrv▸((hraw.ext (hEv3.trans hx0)):Row _ rw' _)) (by omega)) ?_
  rintro _ y0 ⟨rfl,hy0⟩
  refine⟨.inr hy0.keep,?_⟩
  simp (disch:=first|omega|assumption|rfl) only[go_sem]
  refine zbb (z:=vs []) rfl rfl rfl rfl rfl ?_
  intro y1 hy1 hys1 hyo
  refine⟨.inr hy1.keep,?_⟩
  simp (disch:=first|omega|assumption|rfl) only[go_sem]
  have hsy0:=hy0.size
  have hxy1:=(hx0.trans hy0).trans hy1
  refine zaP (e:=9) (hown.ext hxy1) hyo.row rfl rfl rfl rfl rfl rfl (vr0) (vr0) (fun q hq=>by simp at hq;subst hq;rfl) (by simp;omega) (by decide) (by omega) ?_
  intro sv' y2 hown2 hX2 hK2 hb2
  refine⟨.inr (hK2.mono fun b _ hb=>by have:=(hown.ge hb).1;show _≤_;omega),?_⟩
  simp (disch:=first|omega|assumption|rfl) only[go_sem,s3]
  have hs2:=hK2.size
  have hb2Y:=(hK2.block bv (by omega) (fun hh=>by have:=(hown.ge hh).1;omega)).trans (Ext.at hxy1 hb)
  refine zay (P:=Tryz.prog) rfl rfl (by obtain⟨a,c,rfl⟩:=hown2.slice;rfl) hb2Y (by simp) (by simp) ?_
  intro y3 hs3' hb3 hk3
  refine⟨.inl rfl,?_⟩
  simp (disch:=first|omega|assumption|rfl) only[go_sem]
  refine hK _ _ ?_;clear hK hgd;clear K;try clear gd
  have q3:zag y3 (some ⟨bv,0,Option.none⟩)=some sv':=zab hb3 rfl
  refine go (an2 s3 q3) ?_
  refine rt0 Tryz.ntmps87 ?_
  refine⟨?_,Keep.to_ext (hX2 w (hEv3.trans hxy1) (by omega)) rfl (fun b hb=>by omega) hk3⟩
  rw[hwd [hexT d.raw] (fun h=>absurd h hz) (fun _=>rfl),List.map_append]
  exact(hown2.keep hk3 (fun b hb h=>by have:=(hown2.ge hb).1;omega)).row
end Go.Proofs.YtanmnkbccfcagaaGreatDoor
