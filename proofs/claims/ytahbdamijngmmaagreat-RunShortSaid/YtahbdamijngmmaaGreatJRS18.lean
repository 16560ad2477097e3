/-
  Texts of a proof, joined: OB, OE, OF, YRS, KR3, ZRS.
  Conditions: none.
-/
import Derived.Test.YtahbdamijngmmaaGreatJRS12
import Derived.Test.YtahbdamijngmmaaGreatJRS16
import Derived.Test.YtahbdamijngmmaaGreatJRS17
import Derived.Test.YtahbdamijngmmaaGreatJRS09
import Derived.Test.YtahbdamijngmmaaGreatJRS13
import Derived.Test.YtahbdamijngmmaaGreatRows
import Derived.JoinedOf
import Derived.Laws.IdiomArrays
import Derived.Test.YtahbdamijngmmaaGreatJRS11
import Derived.Test.YtahbdamijngmmaaGreatJRS10
set_option linter.unusedVariables false
set_option linter.unusedSimpArgs false
set_option linter.defProp false
set_option linter.unnecessarySimpa false
set_option maxHeartbeats 8000000
namespace Go.Proofs.YtahbdamijngmmaaGreat
open Go
set_option maxRecDepth 10000
theorem zjE:zcR smallN kX 1=[(kA0,[0]),(kA1,[0,0]),(kA2,[0,0,0])]:=by kernel_rfl
theorem zjF:zgT [(kA0,[0]),(kA1,[0,0]),(kA2,[0,0,0])]=[(1,[0,0,0])]:=by kernel_rfl
theorem small_p1:zhs smallN kX 1 [0,0,0]=(kA2,true):=by kernel_rfl
theorem small_p2:zhs smallN kX 1 [0,1]=(stZ,false):=by kernel_rfl
theorem small_p3:zhs smallN kX 1 []=(stZ,false):=by kernel_rfl
theorem zgI:zbV kX=true:=by kernel_rfl
theorem zkZ(l:List Int):∀v∈l.map vi,v.cells=#[v]:=fun v h=>by obtain⟨x,_,rfl⟩:=List.mem_map.1 h;rfl
theorem zkj(w:World):Fn Tryz.prog 33 #[] w (fun v w'=>v= .bool true∧Ext w w'):=by
 refine enter Tryz.func33 Tryz.ntmps33 rfl rfl ?_
 refine go trivial ?_
 refine rq ?_;intro gd K hgd hK
 try simp only[go_sem]
 refine Fn.mono (Small_ok w) ?_
 rintro _ w1 ⟨hE1,cs,rfl,hN⟩
 obtain⟨hv,rv,rfl,hh,hr⟩:=id hN.ex
 have hh1:=hh.isOne
 have hr1:=hr.isOne
 try simp only[go_sem]
 refine za1 (P:=Tryz.prog) (l:=[hv,rv,vi smallN.rw,vi smallN.rf]) rfl (fun v h=>by simp at h;rcases h with rfl|rfl|rfl|rfl<;>first|assumption|rfl) rfl rfl ?_
 intro w2 hE2 hs2 hB
 try simp only[go_sem]
 refine hK _ _ ?_;clear hK hgd;clear K;try clear gd
 have dN:zas w2 (some ⟨w1.heap.size,0,Option.none⟩) 4=some [hv,rv,vi smallN.rw,vi smallN.rf]:=zah hB rfl
 refine go trivial ?_
 refine rq ?_;intro gd K hgd hK
 try simp only[go_sem]
 refine zbC (z:=vs []) (l:=[vs [120],vs [111]]) rfl rfl rfl rfl rfl rfl (fun v hv=>by simp at hv;rcases hv with rfl|rfl<;>rfl) (by simp) ?_
 intro w3 hE3 hs3 o3
 have r3:Row w3 (.slice (some ⟨w2.heap.size,0,Option.none⟩) 2 2) (kX.map vs):=o3.row
 try simp only[go_sem]
 refine hK _ _ ?_;clear hK hgd;clear K;try clear gd
 refine go trivial ?_
 have hE13:=hE2.trans hE3
 have hP:=zgn (t:=1) hE13 hN zdf r3 zgI
 simp only[zjE,zjF]at hP
 refine rc (zad hE3 dN) hP ?_
 rintro _ w4 ⟨hE4,(⟨hc,_⟩| ⟨hc,ev,rfl,hrows⟩)⟩
 ·exact absurd hc (by decide)
 obtain⟨ae,ce,rfl,hce,hge⟩:=id hrows.open
 rw[show ([((1:Int),[(0:Int),0,0])]:List (Int×List Int)).length=1 from rfl]
 obtain⟨ec,hec,hEn⟩:=hge 0 (by simp)
 obtain⟨pv,rfl,hpv⟩:=hEn.ex
 obtain⟨ap,cp,rfl,_⟩:=id hpv
 replace hec:zas w4 (adr ae (0*2)) 2=some [vi 1,.slice ap 3 cp]:=hec
 obtain⟨xe,rfl⟩:=Option.isSome_iff_exists.1 (zap hec)
 rw[Nat.zero_mul,zaA]at hec
 obtain⟨x1,hx1⟩:∃x,adr (some xe) 1=some x:=⟨_,rfl⟩
 have g0:=zax (j:=0) hec rfl
 have g1:=zax (j:=1) hec rfl
 rw[hx1]at g1
 rw[zaA]at g0
 refine rgo trivial ?_
 have hE14:=hE13.trans hE4
 have dN4:=zad (hE3.trans hE4) dN
 refine rq ?_;intro gd K hgd hK
 try simp (disch:=first|omega|assumption|rfl) only[go_sem,dN4]
 refine zbC (z:=vi 0) (l:=[vi 0,vi 0,vi 0]) rfl rfl rfl rfl rfl rfl (zkZ [0,0,0]) (by simp) ?_
 intro w5 hE5 hs5 o5
 try simp only[go_sem]
 have hP:=ziO (t:=1) (ch:=[0,0,0]) (hE14.trans hE5) hN zdf (r3.ext (hE4.trans hE5)) zgI o5.row (by decide)
 rw[small_p1]at hP
 refine Fn.mono hP ?_
 rintro _ w6 ⟨hE6,n6,rfl,hn6⟩
 try simp only[go_sem]
 refine za1 (P:=Tryz.prog) (l:=stV n6 kA2) rfl (zcn hn6.isOne) rfl rfl ?_
 intro w7 hE7 hs7 hB7
 try simp only[go_sem]
 refine hK _ _ ?_;clear hK hgd;clear K;try clear gd
 refine go trivial ?_
 have hE47:=hE5.trans (hE6.trans hE7)
 have dN7:=zad hE47 dN4
 refine rq ?_;intro gd K hgd hK
 try simp (disch:=first|omega|assumption|rfl) only[go_sem,dN7]
 refine zbC (z:=vi 0) (l:=[vi 0,vi 1]) rfl rfl rfl rfl rfl rfl (zkZ [0,1]) (by simp) ?_
 intro w8 hE8 hs8 o8
 try simp only[go_sem]
 have hP:=ziO (t:=1) (ch:=[0,1]) ((hE14.trans hE47).trans hE8) hN zdf (r3.ext ((hE4.trans hE47).trans hE8)) zgI o8.row (by decide)
 rw[small_p2]at hP
 refine Fn.mono hP ?_
 rintro _ w9 ⟨hE9,n9,rfl,hn9⟩
 try simp only[go_sem]
 refine za1 (P:=Tryz.prog) (l:=stV n9 stZ) rfl (zcn hn9.isOne) rfl rfl ?_
 intro w10 hE10 hs10 hB10
 try simp only[go_sem]
 refine hK _ _ ?_;clear hK hgd;clear K;try clear gd
 refine go trivial ?_
 have hE710:=hE8.trans (hE9.trans hE10)
 have dN10:=zad hE710 dN7
 have hE110:=(hE14.trans hE47).trans hE710
 have hP:=ziO (t:=1) (ch:=[]) (cv:= .slice Option.none 0 0) hE110 hN zdf (r3.ext ((hE4.trans hE47).trans hE710)) zgI ⟨Option.none,0,rfl,Nat.le_refl _,fun j h=>by simp at h⟩ (by decide)
 rw[small_p3]at hP
 refine rq ?_;intro gd K hgd hK
 try simp (disch:=first|omega|assumption|rfl) only[go_sem,dN10]
 refine Fn.mono hP ?_
 rintro _ w11 ⟨hE11,n11,rfl,hn11⟩
 try simp only[go_sem]
 refine za1 (P:=Tryz.prog) (l:=stV n11 stZ) rfl (zcn hn11.isOne) rfl rfl ?_
 intro w12 hE12 hs12 hB12
 try simp only[go_sem]
 refine hK _ _ ?_;clear hK hgd;clear K;try clear gd
 refine go trivial ?_
 have hE412:=hE47.trans (hE710.trans (hE11.trans hE12))
 refine rc trivial (zmf (k:=1) (p:=[0,0,0]) ((Rows.ext hrows hE412).to fun _ _ h=>h.ext hE412)) ?_
 rintro kv w13 ⟨hkv,hE13⟩
 obtain⟨ak,ck,rfl,_,hgk⟩:=hkv
 rw[show [vi 1].length=1 from rfl]
 have gk:=hgk 0 (by simp)
 replace gk:zae w13 (adr ak 0)=some (vi 1):=gk
 obtain⟨xk,rfl⟩:=Option.isSome_iff_exists.1 (zag gk)
 rw[zaA]at gk
 refine rgo trivial ?_
 have g0:=zaa (hE412.trans hE13) g0
 have g1:=zaa (hE412.trans hE13) g1
 have f6:zae w13 (some ⟨w6.heap.size,5,Option.none⟩)=some (vi 1):=zab (i:=5) (Ext.at (hE710.trans (hE11.trans (hE12.trans hE13))) hB7) rfl
 have z0:(0:Int)≤0:=Int.le_refl _
 have z1:(0:Int)<((1:Nat):Int):=by decide
 have o1:decide (((1:Nat):Int)=1)=true:=rfl
 have o3:decide (((3:Nat):Int)=3)=true:=rfl
 have o4:decide (((([(kA0,[0]),(kA1,[0,0]),(kA2,[0,0,0])]:List MetL).length:Nat):Int)=3)=true:=rfl
 have o0:decide ((0:Int)=0)=true:=rfl
 have o2:decide ((1:Int)=1)=true:=rfl
 refine rgg [(2,46),(7,51),(14,58),(22,66),(26,70),(29,73),(34,78),(38,82),(42,86),(47,91)] (an2 (an9 g0 g1 f6 gk hx1 z0 z1 o1 o3) (an9 o0 o2 Int.toNat_zero Nat.zero_mul zaA o4 Nat.add_zero Nat.zero_add Bool.not_false)) ?_
 refine go trivial ?_
 refine rt0 Tryz.ntmps33 ?_
 exact⟨rfl,hE1.trans ((hE14.trans (hE412.trans hE13)))⟩
def zhV(N:NetL)(q:Nm)(t:Int):List (Int×List Int):=if 4096<(zcR N q t).length then [] else zgT (zcR N q t)
def numR(N:NetL)(q:Nm)(t:Int):Nat:=if 4096<(zcR N q t).length then 0 else(zcR N q t).length
def errR(N:NetL)(q:Nm)(t:Int):Int:=if 4096<(zcR N q t).length then 11 else 0
theorem zj0{N:NetL}{q:Nm}{t:Int}(hN:za0 N)(hq:zbV q=true)(h:errR N q t=0):Shut N t q (zcR N q t)∧zhV N q t=zgT (zcR N q t):=by
 unfold errR at h
 unfold zhV
 split at h
 ·cases h
 ·rename_i hl
  rw[if_neg hl]
  exact⟨zly hN hq (by omega),rfl⟩
theorem zlD(N:NetL)(q:Nm)(t:Int):(zhV N q t).length≤9:=by
 unfold zhV
 split
 ·simp
 ·exact zlC _
theorem ziR{w0 w:World}(hE0:Ext w0 w){cs:List Value}{N:NetL}{qv:Value}{q:Nm}{t:Int}(hN:NetAt w0 cs N)(hG:za0 N)(hq:Row w qv (q.map vs))(hgq:zbV q=true):
  Fn Tryz.prog 35 #[.agg cs.toArray,qv,vi t] w (fun v w'=>Ext w w'∧∃ev,v= .tuple #[ev,vi (numR N q t),vi (errR N q t)]∧Rows 2 (EndAt w') w' ev (zhV N q t)):=by
 refine Fn.mono (zgn (t:=t) hE0 hN hG hq hgq) ?_
 rintro v x ⟨hE,(⟨h1,rfl⟩| ⟨h1,ev,rfl,h2⟩)⟩
 ·unfold numR errR zhV
  rw[if_pos h1,if_pos h1,if_pos h1]
  exact⟨hE,_,rfl,Rows.nil _ _ _⟩
 ·unfold numR errR zhV
  rw[if_neg (by omega),if_neg (by omega),if_neg (by omega)]
  exact⟨hE,_,rfl,h2⟩
def EndG(w:World)(a:Option Addr)(E:List (Int×List Int)):Prop:=∀i (hi:i<E.length),∃xa x x1 ap cp,a=some xa∧adr (some xa) (i*2)=some x∧adr (some x) 0=some x∧adr (some x) 1=some x1∧zae w (some x)=some (vi E[i].1)∧zae w (some x1)=some (.slice ap E[i].2.length cp)∧
 Row w (.slice ap E[i].2.length cp) (E[i].2.map vi)∧∀j (hj:j<E[i].2.length),∃xp,ap=some xp∧zae w (adr (some xp) j)=some (vi E[i].2[j])
theorem zlB{w:World}{ev:Value}{E:List (Int×List Int)}(h:Rows 2 (EndAt w) w ev E):∃a c,ev= .slice a E.length c∧EndG w a E:=by
 obtain⟨a,c,rfl,_,hg⟩:=h.open
 refine⟨a,c,rfl,fun i hi=>?_⟩
 obtain⟨cs,h1,h2⟩:=hg i hi
 obtain⟨pv,rfl,hp⟩:=h2.ex
 obtain⟨ap,cp,rfl,hcp,hgp⟩:=id hp
 obtain⟨xa,rfl⟩:=Option.isSome_iff_exists.1 (zap h1)
 obtain⟨x,hx⟩:∃x,adr (some xa) (i*2)=some x:=⟨_,rfl⟩
 rw[hx]at h1
 obtain⟨x1,hx1⟩:∃x1,adr (some x) 1=some x1:=⟨_,rfl⟩
 have g0:=zax (j:=0) h1 rfl
 have g1:=zax (j:=1) h1 rfl
 rw[zaA]at g0
 rw[hx1]at g1
 rw[List.length_map]at g1 hp
 refine⟨xa,x,x1,ap,cp,rfl,hx,zaA _,hx1,g0,g1,hp,fun j hj=>?_⟩
 have g:=hgp j (by rw[List.length_map];exact hj)
 rw[List.getElem_map]at g
 cases ap with
 |none=>simp[adr,zae]at g
 |some xp=>exact⟨xp,rfl,g⟩
instance Tr.ends{a:Option Addr}{E:List (Int×List Int)}:Tr fun w=>EndG w a E:=⟨fun hE h i hi=>by
 obtain⟨xa,x,x1,ap,cp,e0,e1,e2,e3,g0,g1,hr,hg⟩:=h i hi
 exact⟨xa,x,x1,ap,cp,e0,e1,e2,e3,zaa hE g0,zaa hE g1,hr.ext hE,fun j hj=>by
  obtain⟨xp,e,g⟩:=hg j hj
  exact⟨xp,e,zaa hE g⟩⟩⟩
theorem rem_nn{P:Program}{t:TypeId}{a b:Nat}(h:0<b):binV P .rem t (.int .i64 (a:Int)) (.int .i64 (b:Int))=some (.int .i64 ((a % b:Nat):Int)):=by
 have hb:¬((b:Int)=0):=by omega
 show(if IntKind.i64=IntKind.i64 then(if (b:Int)=0 then Option.none else some (Value.int .i64 ((a:Int).tmod b))) else Option.none)=_
 rw[if_pos rfl,if_neg hb,←Int.ofNat_tmod]
theorem u8_nat{n:Int}(h:(Lit.int .u8 n).wf=true):∃k:Nat,n=(k:Int)∧k≤255:=by
 have:=wf_u8 h
 exact⟨n.toNat,by omega,by omega⟩
theorem row_at{w:World}{v:Value}{kd:IntKind}{ps:List Int}(h:Row w v (ps.map (.int kd))):∃a c,v= .slice a ps.length c∧∀i (hi:i<ps.length),∃x,a=some x∧zae w (adr (some x) i)=some (.int kd ps[i]):=by
 obtain⟨a,c,rfl,_,hg⟩:=h
 refine⟨a,c,by rw[List.length_map],fun i hi=>?_⟩
 have g:=hg i (by rw[List.length_map];exact hi)
 rw[List.getElem_map]at g
 obtain⟨x,rfl⟩:=Option.isSome_iff_exists.1 (zag g)
 exact⟨x,rfl,g⟩
theorem ziM(W:World){cs:List Value}{N:NetL}{qv pv:Value}{q:Nm}{t:Int}{ps:List Int}(hN:NetAt W cs N)(hv:NumN N)(hq:Row W qv (q.map vs))(_oq:NmOk q)(hp:Row W pv (ps.map (.int .u8)))(hpw:∀n∈ps,(Lit.int .u8 n).wf=true):
  Fn Tryz.prog 9 #[.agg cs.toArray,qv,vi t,pv] W (fun v w'=>v= .bool true∧Ext W w'):=by
 have hN0:=hN
 obtain⟨hsv,rv,rfl,hh,hr⟩:=hN.ex
 obtain⟨ah,ch,hhv,_⟩:=hh.open
 obtain⟨ar0,cr0,hrv,_⟩:=id hr
 obtain⟨ap,cp,rfl,hgp⟩:=row_at hp
 refine enter Tryz.func9 Tryz.ntmps9 rfl rfl ?_
 repeat refine c_r ?_
 rw[hhv,hrv]
 refine go trivial ?_
 rw[←hhv,←hrv]
 refine zaB ?_
 intro w1 hE1 hs1 hA
 have dN:zas w1 (some ⟨W.heap.size,0,Option.none⟩) 4=some [hsv,rv,vi N.rw,vi N.rf]:=zah hA rfl
 refine rc trivial (zkj w1) ?_
 rintro _ w2 ⟨rfl,hE2⟩
 refine rgo trivial ?_
 have hE12:=hE1.trans hE2
 have dN2:=zad hE2 dN
 refine zay (Q:=fun e σ' ds' v'=>e= .normal∧ds'=[]∧(σ' 4= .pointer (some ⟨W.heap.size,0,Option.none⟩)∧σ' 1=qv∧σ' 2=vi t∧σ' 3= .slice ap ps.length cp)∧Ext w2 v'∧∃bb,σ' 30= .bool bb∧(bb=false→za0 N∧zbV q=true∧ps.length≤40)) ?_ ?_
 ·obtain⟨b4,h4⟩:∃b,decide (((ps.length:Nat):Int)>40)=b:=⟨_,rfl⟩
  refine rcg [(3,21),(8,26)] dN2 (zki w2 (hN0.ext hE12) hv) ?_
  rintro _ w4 ⟨hE4,b,rfl,hb⟩
  cases b with
  |false=>
   refine reg [(3,21),(8,26)] trivial ?_
   exact⟨rfl,rfl,sc trivial,hE4,_,vr0,fun h=>by cases h⟩
  |true=>
   refine rdg [(3,21),(8,26)] trivial (zg7 w4 qv q (hq.ext (hE12.trans hE4))) ?_
   rintro _ w7 ⟨rfl,hE7⟩
   cases hgq:zbV q with
   |false=>
    refine reg [(3,21),(8,26)] trivial ?_
    exact⟨rfl,rfl,sc trivial,hE4.trans hE7,_,vr0,fun h=>by cases h⟩
   |true=>
    refine reg [(3,21),(8,26)] h4 ?_
    exact⟨rfl,rfl,sc trivial,hE4.trans hE7,_,vr0,fun h=>⟨hb rfl,rfl,by have:=of_decide_eq_false (h4.trans h);omega⟩⟩
 rintro _ σ1 _ w4 ⟨rfl,rfl,s,hE4,bb,s24,hbb⟩
 have hE14:=hE12.trans hE4
 cases bb with
 |true=>
  refine go s24 ?_
  refine rt0 Tryz.ntmps9 ?_
  exact⟨rfl,hE14⟩
 |false=>
 obtain⟨hG,hgq,hp40⟩:=hbb rfl
 have dN4:=zad hE4 dN2
 refine go s24 ?_
 refine rc (an2 s dN4) (ziR (t:=t) hE14 hN0 hG (hq.ext hE14) hgq) ?_
 rintro _ w5 ⟨hE5,ev,rfl,hv5⟩
 have hE15:=hE14.trans hE5
 have dN5:=zad hE5 dN4
 obtain⟨a,c,rfl,hg⟩:=zlB hv5
 have herr:errR N q t=0∨errR N q t=11:=by unfold errR;split<;>simp
 have hsh:=fun h=>zj0 (t:=t) hG hgq h
 have hl9:=zlD N q t
 obtain⟨E,hE⟩:∃E,zhV N q t=E:=⟨_,rfl⟩
 obtain⟨n,hn⟩:∃n,numR N q t=n:=⟨_,rfl⟩
 obtain⟨e,he⟩:∃e,errR N q t=e:=⟨_,rfl⟩
 rw[hE]at hg hsh hl9
 rw[he]at herr hsh
 rw[hE,hn,he]
 clear hv5
 rcases herr with rfl|rfl
 rotate_left
 ·refine rgo s ?_
  refine go (show decide ((11:Int)=0)=false from rfl) ?_
  refine rt0 Tryz.ntmps9 ?_
  exact⟨rfl,hE15⟩
 obtain⟨hS,hee⟩:=hsh rfl
 clear hsh
 refine rgo s ?_
 refine go (show decide ((0:Int)=0)=true from rfl) ?_
 refine rc (an2 s dN5) (Start_ok hE15 hN0 hG.z.rl (hq.ext hE15)) ?_
 rintro sv0 w6 ⟨hE6,hst0⟩
 have hE16:=hE15.trans hE6
 have dN6:=zad hE6 dN5
 have hgp6:∀i (hi:i<ps.length),∃x,ap=some x∧zae w6 (adr (some x) i)=some (.int .u8 ps[i]):=fun i hi=>by
  obtain⟨x,h1,h2⟩:=hgp i hi
  exact⟨x,h1,zaa hE16 h2⟩
 have hg6:=Tr.ends.tr hE6 hg
 refine rgo s ?_
 refine zay (Q:=fun e' σ' ds' v'=>e'= .exit 0∧ds'=[]∧Ext w6 v') ?_ ?_
 ·refine zg2 ps.length (fun i σ v=>(σ 13=vi i∧σ 3= .slice ap ps.length cp∧σ 9= .slice a E.length c∧σ 4= .pointer (some ⟨W.heap.size,0,Option.none⟩)∧σ 2=vi t)∧∃sv L,σ 12=sv∧Ext w6 v∧Rows 6 (StC v) v sv L∧MetI N (zcR N q t) (i+1) L) ?_ ?_ ?_
  ·exact⟨⟨vr0,(vq1 s),vr0,(vq1 s),(vq1 s)⟩,sv0,_,vr0,Keep.refl _ _,hst0,hS.m0 hG hgq⟩
  ·clear s
   rintro i σ v hi p ⟨s,sv,L,h12,hEv,hL,hM⟩
   obtain⟨aL,cS,rfl,_,hgs⟩:=hL.open
   by_cases hL0:L.length=0
   ·have hd:decide (((L.length:Nat):Int)>0)=false:=decide_eq_false (by omega)
    refine go trivial ?_
    refine rgg [(4,48)] (an4 s p h12 hd) ?_
    refine go trivial ?_
    exact⟨rfl,rfl,hEv⟩
   have hd:decide (((L.length:Nat):Int)>0)=true:=decide_eq_true (by omega)
   refine go trivial ?_
   refine rgg [(4,48)] (an4 s p h12 hd) ?_
   refine go trivial ?_
   obtain⟨xp,rfl,g6⟩:=hgp6 i hi
   have gp:=zaa hEv g6
   obtain⟨k,hk,hk5⟩:=u8_nat (hpw _ (List.getElem_mem hi))
   rw[hk]at gp
   obtain⟨j,hj⟩:∃j,k % L.length=j:=⟨_,rfl⟩
   have hjl:j<L.length:=by rw[←hj];exact Nat.mod_lt _ (by omega)
   have hrem:binV Tryz.prog .rem 3 (.int .i64 (k:Int)) (.int .i64 (L.length:Int))=some (.int .i64 (j:Int)):=by rw[rem_nn (by omega),hj]
   have hj0:(0:Int)≤(j:Int):=by omega
   have hj1:(j:Int)<(L.length:Int):=by omega
   obtain⟨cs6,hcs,hX⟩:=hgs j hjl
   have hmem:=List.getElem_mem hjl
   obtain⟨S,hSe⟩:∃S,L[j]=S:=⟨_,rfl⟩
   rw[hSe]at hX hmem
   obtain⟨nv,rfl,hnm⟩:=hX.ex
   obtain⟨xs,rfl⟩:=Option.isSome_iff_exists.1 (zap hcs)
   obtain⟨xi,hxi⟩:∃xi,adr (some xs) (j*6)=some xi:=⟨_,rfl⟩
   rw[hxi]at hcs
   have n1:=hnm.isOne
   have gS:=(hM S hmem).1
   refine rq ?_;intro gd K hgd hK
   try simp (disch:=first|omega|assumption|rfl) only[go_sem,s,p,h12,gp,hrem,hj0,hj1,hxi,hcs]
   refine za1 (P:=Tryz.prog) (l:=stV nv S) rfl (zcn n1) rfl rfl ?_
   intro v2 hE2v hs2v hB
   try simp only[go_sem]
   refine hK _ _ ?_;clear hK hgd;clear K;try clear gd
   obtain⟨b7,hb7⟩:∃b,v.heap.size=b:=⟨_,rfl⟩
   rw[hb7]at hB hs2v ⊢
   have hEv2:=hEv.trans hE2v
   have f5:zae v2 (some ⟨b7,5,Option.none⟩)=some (vi S.fin):=zab hB rfl
   have dS:zas v2 (some ⟨b7,0,Option.none⟩) 6=some (stV nv S):=zah hB rfl
   refine go trivial ?_
   refine zay (Q:=fun e' σ' ds' v'=>e'= .exit 2∧ds'=[]∧(σ' 13=vi i∧σ' 3= .slice (some xp) ps.length cp∧σ' 9= .slice a E.length c∧σ' 4= .pointer (some ⟨W.heap.size,0,Option.none⟩)∧σ' 2=vi t∧σ' 14= .pointer (some ⟨b7,0,Option.none⟩))∧Ext v2 v') ?_ ?_
   ·refine zg2 E.length (fun k σ v=>(σ 15=vi k∧σ 13=vi i∧σ 3= .slice (some xp) ps.length cp∧σ 9= .slice a E.length c∧σ 4= .pointer (some ⟨W.heap.size,0,Option.none⟩)∧σ 2=vi t∧σ 14= .pointer (some ⟨b7,0,Option.none⟩))∧Ext v2 v) ?_ ?_ ?_
    ·exact⟨⟨vr0,(vq1 s),(vq1 s),(vq1 s),(vq1 s),(vq1 s),vr0⟩,Keep.refl _ _⟩
    ·clear s
     rintro m σ z hm r ⟨s,hEz⟩
     obtain⟨xa,u,u1,aq,cq,rfl,hu,hu0,hu1,g0,g1,_,_⟩:=hg6 m hm
     refine go (an2 s r) ?_
     refine zay (Q:=fun e' σ' ds' v'=>e'= .normal∧ds'=[]∧(σ' 15=vi m∧σ' 13=vi i∧σ' 3= .slice (some xp) ps.length cp∧σ' 9= .slice (some xa) E.length c∧σ' 4= .pointer (some ⟨W.heap.size,0,Option.none⟩)∧σ' 2=vi t∧σ' 14= .pointer (some ⟨b7,0,Option.none⟩))∧Ext z v'∧σ' 90= .bool false) ?_ ?_
     ·refine zaK (fun _=>false) [(0,true),(1,true),(2,true),(3,true),(4,true),(5,true),(6,true),(7,true),(8,true),(9,true),(10,true),(11,true),(12,true),(13,true),(14,true),(15,true),(16,true),(17,true),(18,true)] NoS mixed (by kernel_rfl) ?_;intro gd K x hgd hx hxe hK;clear hxe
      have hg8:∀n σ b,zav gd n σ (some (8,b))=zal (ev n σ (.tmp 80)) b:=(fun n σ b=>by rw[zac,show gd 8=some 80 from(by rw[hgd];rfl)];rfl)
      have e0:=zaa (hEv2.trans (hEz.trans hx)) g0
      have e1:=zaa (hEv2.trans (hEz.trans hx)) g1
      have f5x:=zaa (hEz.trans hx) f5
      by_cases hkd:S.fin=E[m].1
      ·have hfew:=hS.few hM hmem (e:=E[m]) (by rw[←hee];exact List.getElem_mem hm) hkd
       have hgt:decide (((E[m].2.length:Nat):Int)>((i+1:Nat):Int))=false:=decide_eq_false (by omega)
       have hde:=decide_eq_true hkd
       simp (disch:=first|omega|assumption|rfl) only[go_sem,s,p,r,hu,hu0,hu1,e0,e1,f5x,hde,hgt,Nat.zero_add,zcx,↓hg8]
       refine hK _ _ ?_;clear hK hgd;clear K;try clear gd
       exact⟨rfl,rfl,sc s,hx,vr0⟩
      ·have hde:=decide_eq_false hkd
       simp (disch:=first|omega|assumption|rfl) only[go_sem,s,p,r,hu,hu0,hu1,e0,e1,f5x,hde,Nat.zero_add,zcx,↓hg8]
       refine hK _ _ ?_;clear hK hgd;clear K;try clear gd
       exact⟨rfl,rfl,sc s,hx,vr0⟩
     clear s
     rintro _ σ3 _ v3 ⟨rfl,rfl,s,hv3,s90⟩
     refine go (an3 s r s90) ?_
     exact⟨rfl,sc (an2 s r),hEz.trans hv3⟩
    ·clear s
     rintro σ z r ⟨s,hEz⟩
     refine go (an2 s r) ?_
     exact⟨rfl,rfl,sc s,hEz⟩
   clear s
   rintro _ σ3 _ v3 ⟨rfl,rfl,s,hEv3⟩
   have hE63:=hEv2.trans hEv3
   have dN3:=zad hE63 dN6
   have dS3:=zad hEv3 dS
   refine go trivial ?_
   refine rc (an3 s dN3 dS3) (Next_ok (t:=t) (hE16.trans hE63) hN0 hG.z (hX.ext (hE2v.trans hEv3)) (gS.b hG)) ?_
   rintro sv4 v4 ⟨hE4v,hR4⟩
   refine rgo (an2 s p) ?_
   exact⟨rfl,sc (an2 s p),sv4,_,vr0,hE63.trans hE4v,hR4,hS.next hG hM hmem⟩
  ·rintro σ v p ⟨s,sv,L,h12,hEv,hL,hM⟩
   obtain⟨aL,cS,rfl,_,_⟩:=hL.open
   refine go trivial ?_
   refine rgg [(4,48)] (an3 s p h12) ?_
   refine go trivial ?_
   exact⟨rfl,rfl,hEv⟩
 clear s
 rintro _ σ3 _ w7 ⟨rfl,rfl,hE7⟩
 refine go trivial ?_
 refine rt0 Tryz.ntmps9 ?_
 exact⟨rfl,hE16.trans hE7⟩
end Go.Proofs.YtahbdamijngmmaaGreat
namespace Go.Proofs.YtahbdamijngmmaaGreat.runShort
open Go Go.Proofs.YtahbdamijngmmaaGreat
theorem j1:(Rows.runShortRow.inPlace==Tryz.pinned.checked.prog.inPlace 9)=true:=by kernel_rfl
theorem j2:(Rows.runShortRow.unfollowed==Tryz.pinned.checked.prog.unfollowed 9)=true:=by kernel_rfl
theorem j3:(Rows.runShortRow.recurses==Tryz.pinned.checked.prog.recurses 9)=true:=by kernel_rfl
theorem j4:(Rows.runShortRow.named==Tryz.pinned.checked.prog.varsNamed 9)=true:=by kernel_rfl
theorem j5:(Tryz.pinned.checked.prog.mayEnter)=true:=by kernel_rfl
theorem j6:(Rows.runShortRow.lifted==Tryz.pinned.checked.prog.liftsFinal)=true:=by kernel_rfl
theorem joined:joinedFacts Tryz.pinned.checked.prog 9 Tryz.f9 Rows.runShortSpec Rows.runShortRow=true:=by
 unfold joinedFacts
 rw[j1,j2,j3,j4,j5,j6]
 kernel_rfl
end Go.Proofs.YtahbdamijngmmaaGreat.runShort
namespace Go.Proofs.YtahbdamijngmmaaGreat
open Go
set_option maxRecDepth 100000
theorem zkB{w:World}{α:Type}{k:Nat}{C:List Value→α→Prop}{Q:α→Prop}{v:Value}{L:List (List Value)}(hL:RowK k w v L)(h:∀cs∈L,∃a,C cs a∧Q a):∃R:List α,Rows k C w v R∧∀a∈R,Q a:=by
 have:∀L:List (List Value),(∀cs∈L,∃a,C cs a∧Q a)→∃R:List α,L.length=R.length∧(∀i (h:i<L.length) (h':i<R.length),C L[i] R[i])∧∀a∈R,Q a:=fun L=>by
  induction L with
  |nil=>intro _;exact⟨[],rfl,fun i h=>by simp at h,fun r h=>by cases h⟩
  |cons cs L ih=>
   intro h
   obtain⟨r,h1,h2⟩:=h cs (List.mem_cons_self ..)
   obtain⟨R,a1,a2,a3⟩:=ih (fun x hx=>h x (List.mem_cons_of_mem _ hx))
   refine⟨r::R,by simp[a1],fun i a b=>?_,fun x hx=>?_⟩
   ·cases i with
    |zero=>exact h1
    |succ i=>exact a2 i (by simpa using a) (by simpa using b)
   ·rcases List.mem_cons.1 hx with rfl|hx
    ·exact h2
    ·exact a3 x hx
 obtain⟨R,a1,a2,a3⟩:=this L h
 exact⟨R,⟨L,hL,a1,a2⟩,a3⟩
section
variable {H : Type} {enc : TypeId × Value → H} {w : World} {base : Nat} {sp : Nat → Bool} {held : Bool}
theorem zgx{P:Program}{t:TypeId}{n:Nat}{c:Value}{x:DataW H×List MemPlace}(ht:P.underlying t=some (.int .u8))(h:DataW.trod enc P w base sp held n t [c]=some x):∃b:UInt8,c=zaf b:=by
 obtain⟨m,h1,_,h2⟩:=DataW.trod_int ht h
 have hb:=wf_u8 h2
 obtain⟨k,rfl⟩:∃k:Nat,m=(k:Int):=⟨m.toNat,by omega⟩
 exact⟨UInt8.ofNat k,by rw[List.head_eq_of_cons_eq h1,zec (by omega)]⟩
theorem rd_addr{t e:TypeId}{c0 c1 c2 c3:Value}{P:Program}(h:RdC enc P w base sp held t [c0,c1,c2,c3])(ht:P.underlying t=some (.array 4 e))(hc:P.cellsOf e=1)(he:P.underlying e=some (.int .u8)):
  ∃a b c d:UInt8,c0=zaf a∧c1=zaf b∧c2=zaf c∧c3=zaf d:=by
 obtain⟨n,x,h,_⟩:=h
 obtain⟨_,_,_,_,_,_,h0,h1,h2,h3⟩:=Go.ChangeShapes.trod_array4 ht hc h
 obtain⟨a,ha⟩:=zgx he h0
 obtain⟨b,hb⟩:=zgx he h1
 obtain⟨c,hc⟩:=zgx he h2
 obtain⟨d,hd⟩:=zgx he h3
 exact⟨a,b,c,d,ha,hb,hc,hd⟩
theorem rd_zone{cs:List Value}(h:RdC enc Tryz.prog w base sp held 122 cs):∃z:zco,ZoneC w cs z∧NumR z.recs:=by
 obtain⟨hl,hf⟩:=zdX h rfl
 have hl2:cs.length=2:=hl
 match cs,hl2 with
 | [c0,c1],_=>
  obtain⟨o,n0,_⟩:=zen (P:=Tryz.prog) (RdC.one (hf 0 _ rfl)) (e:=9) rfl rfl rfl rfl
  obtain⟨R,h1,h2⟩:=rd_recs (RdC.one (hf 1 _ rfl))
  exact⟨⟨o,R⟩,⟨c0,c1,rfl,n0,h1⟩,h2⟩
theorem rd_host{cs:List Value}(h:RdC enc Tryz.prog w base sp held 116 cs):∃z:zex,HostC w cs z∧∀x∈z.zones,NumR x.recs:=by
 obtain⟨hl,hf⟩:=zdX h rfl
 have hl6:cs.length=6:=hl
 match cs,hl6 with
 | [c0,c1,c2,c3,c4,c5],_=>
  obtain⟨o,n0,_⟩:=zen (P:=Tryz.prog) (RdC.one (hf 0 _ rfl)) (e:=9) rfl rfl rfl rfl
  have h1:RdC enc Tryz.prog w base sp held 113 [c1,c2,c3,c4]:=hf 1 _ rfl
  obtain⟨a,b,c,d,rfl,rfl,rfl,rfl⟩:=rd_addr h1 rfl rfl (e:=5) rfl
  have h5:RdC enc Tryz.prog w base sp held 114 [c5]:=hf 2 _ rfl
  obtain⟨L,hL,hall,_⟩:=zfj (RdC.one h5) (e:=122) (k:=2) rfl rfl
  obtain⟨R,r1,r2⟩:=zkB hL (fun cs hcs=>rd_zone (hall cs hcs))
  exact⟨⟨o,[a,b,c,d],R⟩,⟨c0,a,b,c,d,c5,rfl,rfl,n0,r1⟩,r2⟩
theorem rd_net{cs:List Value}(h:RdC enc Tryz.prog w base sp held 25 cs):∃N:NetL,NetAt w cs N∧NumN N:=by
 obtain⟨hl,hf⟩:=zdX h rfl
 have hl4:cs.length=4:=hl
 match cs,hl4 with
 | [c0,c1,c2,c3],_=>
  obtain⟨L,hL,hall,_⟩:=zfj (RdC.one (hf 0 _ rfl)) (e:=116) (k:=6) rfl rfl
  obtain⟨R,r1,r2⟩:=zkB hL (fun cs hcs=>rd_host (hall cs hcs))
  obtain⟨roots,n2,_⟩:=zgw (RdC.one (hf 1 _ rfl)) (e:=3) (k:= .i64) rfl rfl rfl
  obtain⟨a,e2,_⟩:=zhn (hf 2 _ rfl) (k:= .i64) rfl
  obtain⟨b,e3,_⟩:=zhn (hf 3 _ rfl) (k:= .i64) rfl
  have e2':c2=vi a:=List.head_eq_of_cons_eq (show [c2]=[vi a] from e2)
  have e3':c3=vi b:=List.head_eq_of_cons_eq (show [c3]=[vi b] from e3)
  exact⟨⟨R,roots,a,b⟩,⟨c0,c1,by rw[e2',e3'],r1,n2⟩,r2⟩
end
theorem zis{H:Type}{enc:TypeId×Value→H}{P:Program}{w:World}{base:Nat}{sp:Nat→Bool}{held:Bool}{t:TypeId}{cs:Array Value}{d:DataW H}{p:List MemPlace}{ts:List TypeId}{ds:List (DataW H)}(h:DataW.Trod enc P w base sp held t (.agg cs) d p)
  (hw:∀x∈DataW.weightsEach P ts ds,x≤reachBytes) {j:Nat} (ht:ts[j]? =some t) (hd:ds[j]? =some d):RdC enc P w base sp held t cs.toList:=by
 obtain⟨n,h⟩:=h
 exact⟨n,_,h,fun k hk=>hw k (DataW.weights_mem_each ht hd k hk)⟩
end Go.Proofs.YtahbdamijngmmaaGreat
namespace Go.Proofs.YtahbdamijngmmaaGreat.runShort
open Go Go.Proofs.YtahbdamijngmmaaGreat Go.ChangeShapes Go.WideShapes Go.ChangeAt Go.RowKit
theorem own:ownKnob Tryz.prog.godebug=none:=by kernel_rfl
set_option maxRecDepth 100000 in
theorem lifted(os:Os)(started:os.Started)(H:Type)(enc:TypeId×Value→H):
  ReturnsInHanded {} Tryz.checked os 9 .any (Rows.runShortSpec.pre6 enc Tryz.prog Tryz.f9 Rows.runShortRow.domain false) (Rows.runShortSpec.post enc Tryz.prog Tryz.f9 false true false false):=by
 refine law_lift (C:=Tryz.checked) own started (by kernel_rfl) Tryz.func9
  (ChangeSpec.witness6 (enc:=enc) (C:=Tryz.checked) false ⟨#[],#[.agg #[.slice Option.none 0 0,.slice Option.none 0 0,.int .i64 0,.int .i64 0],.slice Option.none 0 0,.int .i64 0,.slice Option.none 0 0],[]⟩ 8 (by kernel_rfl) (by kernel_rfl) (by kernel_rfl) (by kernel_rfl)) rfl ?_ (tb:=4) rfl rfl (by kernel_rfl) (by kernel_rfl) ?_
 ·intro ds hds
  match ds,hds with
  | [d0,d1,d2,d3],_=>rfl
 ·intro W base args ds p hval hA0 hw0
  have hA:DataW.TrodAll enc Tryz.prog W 0 (fun _=>true) true [25,27,3,90] args ds p:=hA0
  have hw:∀x∈DataW.weightsEach Tryz.prog [25,27,3,90] ds,x≤reachBytes:=hw0
  obtain⟨v0,vs0,d0,ds0,p0,q0,rfl,rfl,rfl,h0,r0⟩:=trodAll_cons hA
  obtain⟨v1,vs1,d1,ds1,p1,q1,rfl,rfl,rfl,h1,r1⟩:=trodAll_cons r0
  obtain⟨v2,vs2,d2,ds2,p2,q2,rfl,rfl,rfl,h2,r2⟩:=trodAll_cons r1
  obtain⟨v3,vs3,d3,ds3,p3,q3,rfl,rfl,rfl,h3,r3⟩:=trodAll_cons r2
  obtain⟨rfl,rfl,rfl⟩:=trodAll_nil r3
  obtain⟨a0,rfl,_⟩:=okWide_struct rfl (hval 0 _ _ rfl rfl)
  obtain⟨x0,f0,g0⟩:=rd_net (zis h0 hw (j:=0) rfl rfl)
  obtain⟨a1,n1,c1,rfl⟩:=okWide_slice (e:=9) rfl (hval 1 _ _ rfl rfl)
  obtain⟨x1,f1,g1⟩:=zen (P:=Tryz.prog) (zf0 h1 rfl hw (j:=1) rfl rfl) (e:=9) rfl rfl rfl rfl
  obtain⟨x2,rfl,_,_,f2⟩:=open_int (k:= .i64) rfl (hval 2 _ _ rfl rfl) h2
  obtain⟨a3,n3,c3,rfl⟩:=okWide_slice (e:=5) rfl (hval 3 _ _ rfl rfl)
  obtain⟨x3,f3,g3⟩:=zgw (P:=Tryz.prog) (zf0 h3 rfl hw (j:=3) rfl rfl) (e:=5) rfl rfl rfl
  exact ziM W f0 g0 f1 g1 f3 g3
theorem over:Rows.runShortRow.holds Tryz.pinned (OpenSpec.ofChange Rows.runShortSpec):=
 OpenClaim.holds_of_wide 9 Tryz.f9 rfl rfl rfl rfl rfl rfl rfl ⟨rfl,rfl,rfl,rfl,rfl⟩ rfl rfl rfl rfl rfl (by kernel_rfl) Tryz.func9 joined
  (of_decide_eq_true (by kernel_rfl)) (by unfold Func.isWrapper;first| (rw[if_pos (by decide+kernel)];kernel_rfl)| (rw[if_neg (by decide+kernel)];exact⟨rfl,rfl⟩))
  (fun os started H enc _=>lifted os started H enc)
theorem proved:Rows.RunShortSaid:=over
end Go.Proofs.YtahbdamijngmmaaGreat.runShort
