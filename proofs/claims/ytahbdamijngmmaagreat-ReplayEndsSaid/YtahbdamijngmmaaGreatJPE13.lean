/-
  Texts of a proof, joined: OB, OE, OF, K35, OJ, RA, M5ss, RB, OG, U0, U1, U2, U3, U4, U5, U6, U7, U8, U9, UA, UB, UC, UD, OK, OH, OM, RC, RD, YPE, KR3, ZPE.
  Conditions: none.
-/
import Derived.Test.YtahbdamijngmmaaGreatJPE08
import Derived.Test.YtahbdamijngmmaaGreatJPE11
import Derived.Test.YtahbdamijngmmaaGreatJPE12
import Derived.Test.YtahbdamijngmmaaGreatJPE06
import Derived.Test.YtahbdamijngmmaaGreatJPE07
import Derived.Test.YtahbdamijngmmaaGreatJPE02
import Derived.Test.YtahbdamijngmmaaGreatJPE05
import Derived.Test.YtahbdamijngmmaaGreatJPE01
import Derived.Test.YtahbdamijngmmaaGreatRows
import Derived.JoinedOf
import Derived.Laws.IdiomArrays
set_option linter.unusedVariables false
set_option linter.unusedSimpArgs false
set_option linter.defProp false
set_option linter.unnecessarySimpa false
set_option maxHeartbeats 8000000
namespace Go.Proofs.YtahbdamijngmmaaGreat
open Go
set_option maxRecDepth 10000
theorem kX_good:zbi kX=true:=by kernel_rfl
theorem zkj(l:List Int):∀v∈l.map vi,v.cells=#[v]:=fun v h=>by obtain⟨x,_,rfl⟩:=List.mem_map.1 h;rfl
def zep(N:NetL)(q:Nm)(t:Int):List (Int×List Int):=if 4096<(zdf N q t).length then [] else zha (zdf N q t)
def numR(N:NetL)(q:Nm)(t:Int):Nat:=if 4096<(zdf N q t).length then 0 else(zdf N q t).length
def errR(N:NetL)(q:Nm)(t:Int):Int:=if 4096<(zdf N q t).length then 11 else 0
theorem zjl{N:NetL}{q:Nm}{t:Int}(hN:zaV N)(hq:zbi q=true)(h:errR N q t=0):Shut N t q (zdf N q t)∧zep N q t=zha (zdf N q t):=by
 unfold errR at h
 unfold zep
 split at h
 ·cases h
 ·rename_i hl
  rw[if_neg hl]
  exact⟨zkM hN hq (by omega),rfl⟩
theorem zkR{N:NetL}{q:Nm}{t:Int}(h:errR N q t≠0):zep N q t=[]:=by
 unfold errR at h
 unfold zep
 split at h
 ·rename_i hl;rw[if_pos hl]
 ·exact absurd rfl h
theorem errR_err{N:NetL}{q:Nm}{t:Int}(h:zep N q t≠ []):errR N q t=0:=Decidable.byContradiction fun h0=>h (zkR h0)
theorem zkS(N:NetL)(q:Nm)(t:Int):(zep N q t).length≤9:=by
 unfold zep
 split
 ·simp
 ·exact zkQ _
theorem zia{w0 w:World}(hE0:Ext w0 w){cs:List Value}{N:NetL}{qv:Value}{q:Nm}{t:Int}(hN:NetAt w0 cs N)(hG:zaV N)(hq:Row w qv (q.map vs))(hgq:zbi q=true):
  Fn Tryz.prog 35 #[.agg cs.toArray,qv,vi t] w (fun v w'=>Ext w w'∧∃ev,v= .tuple #[ev,vi (numR N q t),vi (errR N q t)]∧Rows 2 (EndAt w') w' ev (zep N q t)):=by
 refine Fn.mono (zjF (t:=t) hE0 hN hG hq hgq) ?_
 rintro v x ⟨hE,(⟨h1,rfl⟩| ⟨h1,ev,rfl,h2⟩)⟩
 ·unfold numR errR zep
  rw[if_pos h1,if_pos h1,if_pos h1]
  exact⟨hE,_,rfl,Rows.nil _ _ _⟩
 ·unfold numR errR zep
  rw[if_neg (by omega),if_neg (by omega),if_neg (by omega)]
  exact⟨hE,_,rfl,h2⟩
def EndG(w:World)(a:Option Addr)(E:List (Int×List Int)):Prop:=∀i (hi:i<E.length),∃xa x x1 ap cp,a=some xa∧adr (some xa) (i*2)=some x∧adr (some x) 0=some x∧adr (some x) 1=some x1∧zae w (some x)=some (vi E[i].1)∧zae w (some x1)=some (.slice ap E[i].2.length cp)∧
 Row w (.slice ap E[i].2.length cp) (E[i].2.map vi)∧∀j (hj:j<E[i].2.length),∃xp,ap=some xp∧zae w (adr (some xp) j)=some (vi E[i].2[j])
theorem zkP{w:World}{ev:Value}{E:List (Int×List Int)}(h:Rows 2 (EndAt w) w ev E):∃a c,ev= .slice a E.length c∧EndG w a E:=by
 obtain⟨a,c,rfl,_,hg⟩:=h.open
 refine⟨a,c,rfl,fun i hi=>?_⟩
 obtain⟨cs,h1,h2⟩:=hg i hi
 obtain⟨pv,rfl,hp⟩:=h2.ex
 obtain⟨ap,cp,rfl,hcp,hgp⟩:=id hp
 obtain⟨xa,rfl⟩:=Option.isSome_iff_exists.1 (zao h1)
 obtain⟨x,hx⟩:∃x,adr (some xa) (i*2)=some x:=⟨_,rfl⟩
 rw[hx]at h1
 obtain⟨x1,hx1⟩:∃x1,adr (some x) 1=some x1:=⟨_,rfl⟩
 have g0:=zax (j:=0) h1 rfl
 have g1:=zax (j:=1) h1 rfl
 rw[zaz]at g0
 rw[hx1]at g1
 rw[List.length_map]at g1 hp
 refine⟨xa,x,x1,ap,cp,rfl,hx,zaz _,hx1,g0,g1,hp,fun j hj=>?_⟩
 have g:=hgp j (by rw[List.length_map];exact hj)
 rw[List.getElem_map]at g
 cases ap with
 |none=>simp[adr,zae]at g
 |some xp=>exact⟨xp,rfl,g⟩
instance Tr.ends{a:Option Addr}{E:List (Int×List Int)}:Tr fun w=>EndG w a E:=⟨fun hE h i hi=>by
 obtain⟨xa,x,x1,ap,cp,e0,e1,e2,e3,g0,g1,hr,hg⟩:=h i hi
 exact⟨xa,x,x1,ap,cp,e0,e1,e2,e3,zaa hE g0,zaa hE g1,hr.ext hE,fun j hj=>by
  obtain⟨xp,e,g⟩:=hg j hj
  exact⟨xp,e,zaa hE g⟩⟩⟩
theorem rem_nn{P:Program}{t:TypeId}{a b:Nat}(h:0<b):binV P .rem t (.int .i64 (a:Int)) (.int .i64 (b:Int))=some (.int .i64 ((a % b:Nat):Int)):=by
 have hb:¬((b:Int)=0):=by omega
 show(if IntKind.i64=IntKind.i64 then(if (b:Int)=0 then Option.none else some (Value.int .i64 ((a:Int).tmod b))) else Option.none)=_
 rw[if_pos rfl,if_neg hb,←Int.ofNat_tmod]
theorem zj0{w:World}{v:Value}{kd:IntKind}{ps:List Int}(h:Row w v (ps.map (.int kd))):∃a c,v= .slice a ps.length c∧∀i (hi:i<ps.length),∃x,a=some x∧zae w (adr (some x) i)=some (.int kd ps[i]):=by
 obtain⟨a,c,rfl,_,hg⟩:=h
 refine⟨a,c,by rw[List.length_map],fun i hi=>?_⟩
 have g:=hg i (by rw[List.length_map];exact hi)
 rw[List.getElem_map]at g
 obtain⟨x,rfl⟩:=Option.isSome_iff_exists.1 (zag g)
 exact⟨x,rfl,g⟩
section
variable {P : Program} {w : World} {B : Nat}
end
section
variable {P : Program} {d : Option Tmp} {ty : TypeId} {ps : String} {af : Array Edge} {g : Option (Nat × Bool)} {ρ : Operand → Value} {w : World} {K K2 : Value → World → Prop} {α : Type} {k : Nat} {C : List Value → α → Prop}
end
theorem Less_int(w:World)(a b:Int):Fn Tryz.prog 189 #[vi a,vi b] w (fun v w'=>v= .bool (decide (a<b))∧w'=w):=by
 refine enter Tryz.func189 Tryz.ntmps189 rfl rfl ?_
 refine go trivial ?_
 refine rcg [(2,7),(7,12)] trivial (N_int.isNaN_ok w a) ?_
 rintro _ _ ⟨rfl,rfl⟩
 refine reg [(2,7),(7,12)] trivial ?_
 refine go trivial ?_
 refine rt0 Tryz.ntmps189 ?_
 exact⟨rfl,rfl⟩
theorem zjf{w:World}{a:Option Addr}{c:Nat}{l:List Int}(hl:l.length≤12)(hr:Row w (.slice a l.length c) (l.map vi))(hs:∀i (h:i+1<l.length),l[i]≤l[i+1]):
  Fn Tryz.prog 183 #[.slice a l.length c,vi 0,vi l.length] w (fun _ w'=>Ext w w'):=by
 have hg:∀i (hi:i<l.length),∃x,a=some x∧zae w (adr (some x) i)=some (vi l[i]):=by
  obtain⟨a',c',e,_,hg⟩:=hr
  rw[Value.slice.injEq]at e
  obtain⟨rfl,_,rfl⟩:=e
  intro i hi
  have g:=hg i (by rw[List.length_map];exact hi)
  rw[List.getElem_map]at g
  obtain⟨x,rfl⟩:=Option.isSome_iff_exists.1 (zag g)
  exact⟨x,rfl,g⟩
 refine enter Tryz.func183 Tryz.ntmps183 rfl rfl ?_
 refine go (show(0:Int)+1=1 from rfl) ?_
 refine zar (fun m σ ds v=>ds=[]∧∃i:Nat,l.length≤i+1+m∧(σ 6=vi ((i+1:Nat):Int)∧σ 0= .slice a l.length c∧σ 1=vi 0∧σ 2=vi l.length)∧Ext w v) l.length ⟨rfl,0,by omega,⟨vr0,vq0,vq0,vq0⟩,Keep.refl _ _⟩ ?_
 rintro m σ ds v ⟨rfl,i,him,s,hE⟩
 by_cases hi:i+1<l.length
 rotate_left
 ·refine go (an2 s (show decide (((i+1:Nat):Int)<(l.length:Int))=false from decide_eq_false (by omega))) ?_
  exact zay (by simp) rfl hE
 obtain⟨x0,rfl,g0⟩:=hg i (by omega)
 obtain⟨x1,e1,g1⟩:=hg (i+1) hi
 cases e1
 have hlt:decide (((i+1:Nat):Int)<(l.length:Int))=true:=decide_eq_true (by omega)
 have hi1:((i+1:Nat):Int)+1=((i+1+1:Nat):Int):=by push_cast;rfl
 refine go (an2 s hlt) ?_
 refine zar (fun m σ ds v=>ds=[]∧(σ 7=vi ((i+1:Nat):Int)∧σ 6=vi ((i+1:Nat):Int)∧σ 0= .slice (some x0) l.length c∧σ 1=vi 0∧σ 2=vi l.length)∧Ext w v) 0 ⟨rfl,⟨vr0,(vq1 s),(vq1 s),(vq1 s),(vq1 s)⟩,hE⟩ ?_
 clear s hE
 rintro m0 σ ds v ⟨rfl,s,hE⟩
 refine go trivial ?_
 refine zaA (Q:=fun e σ' ds' v'=>e= .normal∧ds'=[]∧(σ' 7=vi ((i+1:Nat):Int)∧σ' 6=vi ((i+1:Nat):Int)∧σ' 0= .slice (some x0) l.length c∧σ' 1=vi 0∧σ' 2=vi l.length)∧Ext v v'∧σ' 30= .bool false) ?_ ?_
 ·refine zaH (fun _=>false) [(0,true),(1,true),(2,true),(3,true),(4,true),(5,true),(6,true),(7,true),(8,true),(9,true),(10,true),(11,true),(12,true),(13,false),(14,true)] NoS mixed (by kernel_rfl) ?_;intro gd K x hgd hx hxe hK;clear hxe
  have hg3:∀n σ b,zat gd n σ (some (3,b))=zaj (ev n σ (.tmp 19)) b:=(fun n σ b=>by rw[zad,show gd 3=some 19 from(by rw[hgd];rfl)];rfl)
  have e0:=zaa (hE.trans hx) g0
  have e1:=zaa (hE.trans hx) g1
  have h1:decide (((i+1:Nat):Int)>0)=true:=decide_eq_true (by omega)
  have hsub:((i+1:Nat):Int) - 1=(i:Int):=by omega
  have hj0:(0:Int)≤(i:Int):=by omega
  have hj1:(i:Int)<(l.length:Int):=by omega
  have hk0:(0:Int)≤((i+1:Nat):Int):=by omega
  have hk1:((i+1:Nat):Int)<(l.length:Int):=by omega
  simp (disch:=first|omega|assumption|rfl) only[go_sem,s,h1,hsub,hj0,hj1,hk0,hk1,e0,e1,zbd,↓hg3]
  refine Fn.mono (Less_int x l[i+1] l[i]) ?_
  rintro _ _ ⟨rfl,rfl⟩
  refine⟨.inr (Keep.refl _ _),?_⟩
  rw[show decide (l[i+1]<l[i])=false from decide_eq_false (by have:=hs i hi;omega)]
  simp (disch:=first|omega|assumption|rfl) only[go_sem,zbd,↓hg3]
  refine hK _ _ ?_;clear hK hgd;clear K;try clear gd
  exact⟨rfl,rfl,sc s,hx,vr0⟩
 clear s
 rintro _ σ1 _ v1 ⟨rfl,rfl,s,hv1,s30⟩
 refine go (an3 s s30 hi1) ?_
 exact⟨m - 1,by omega,rfl,i+1,by omega,sc (an2 s hi1),hE.trans hv1⟩
theorem zi7{w:World}{a:Option Addr}{c:Nat}{l:List Int}{k:Int}(hl:l.length≤12)(hr:Row w (.slice a l.length c) (l.map vi))(hs:∀i (h:i+1<l.length),l[i]≤l[i+1]):
  Fn Tryz.prog 144 #[.slice a l.length c,vi 0,vi l.length,vi k] w (fun _ w'=>Ext w w'):=by
 refine enter Tryz.func144 Tryz.ntmps144 rfl rfl ?_
 refine go trivial ?_
 refine zho 0 (fun _ σ v=>(σ 0= .slice a l.length c∧σ 1=vi 0∧σ 2=vi l.length)∧v=w) ⟨⟨vq0,vq0,vq0⟩,rfl⟩ (fun i _ _ h=>absurd h (by omega)) ?_
 rintro σ v _ ⟨s,rfl⟩
 have h12:decide ((l.length:Int)≤12)=true:=decide_eq_true (by omega)
 refine go (an3 s (show(l.length:Int) - 0=(l.length:Int) from Int.sub_zero _) h12) ?_
 refine rc s (zjf hl hr hs) ?_
 rintro _ w1 hE
 refine rgo trivial ?_
 exact zay (by simp) rfl hE
theorem zh7(w:World){n:Int}(h0:0≤n)(h9:n≤9):Fn Tryz.prog 193 #[.int .u64 n] w (fun v w'=>(∃k,v=vi k)∧w'=w):=by
 have f1:decide (n≥4294967296)=false:=decide_eq_false (by omega)
 have f2:decide (n≥65536)=false:=decide_eq_false (by omega)
 have f3:decide (n≥256)=false:=decide_eq_false (by omega)
 have hn:n=0∨n=1∨n=2∨n=3∨n=4∨n=5∨n=6∨n=7∨n=8∨n=9:=by omega
 rcases hn with rfl|rfl|rfl|rfl|rfl|rfl|rfl|rfl|rfl|rfl
 all_goals
  refine enter Tryz.func193 Tryz.ntmps193 rfl rfl ?_
  refine go (an3 f1 f2 f3) ?_
  refine rq ?_;intro gd K hgd hK
  try simp only[go_sem]
  first|refine zeU (v:= .int .u8 0) rfl ?_|refine zeU (v:= .int .u8 1) rfl ?_|refine zeU (v:= .int .u8 2) rfl ?_|refine zeU (v:= .int .u8 3) rfl ?_|refine zeU (v:= .int .u8 4) rfl ?_
  try simp only[go_sem]
  refine hK _ _ ?_;clear hK hgd;clear K;try clear gd
  refine go trivial ?_
  refine rt0 Tryz.ntmps193 ?_
  exact⟨⟨_,rfl⟩,rfl⟩
theorem zjG(w:World){n:Int}(h0:0≤n)(h9:n≤9):Fn Tryz.prog 145 #[.int .u64 n] w (fun v w'=>(∃k,v=vi k)∧w'=w):=by
 refine enter Tryz.func145 Tryz.ntmps145 rfl rfl ?_
 refine go trivial ?_
 refine rc trivial (zh7 w h0 h9) ?_
 rintro _ _ ⟨⟨k,rfl⟩,rfl⟩
 refine rgo trivial ?_
 refine rt0 Tryz.ntmps145 ?_
 exact⟨⟨k,rfl⟩,rfl⟩
theorem zh4{w:World}{a:Option Addr}{c:Nat}{l:List Int}(hl:l.length≤9)(hr:Row w (.slice a l.length c) (l.map vi))(hs:∀i (h:i+1<l.length),l[i]≤l[i+1]):
  Fn Tryz.prog 89 #[.slice a l.length c] w (fun _ w'=>Ext w w'):=by
 refine enter Tryz.func89 Tryz.ntmps89 rfl rfl ?_
 refine go trivial ?_
 refine rc trivial (zjG w (n:=(l.length:Int)) (by omega) (by omega)) ?_
 rintro _ _ ⟨⟨k,rfl⟩,rfl⟩
 refine rd trivial (zi7 (by omega) hr hs) ?_
 rintro _ w1 hE
 refine rgo trivial ?_
 exact zay (by simp) rfl hE
def typesL:List Int:=[1,2,5,6,12,15,16,28,39]
def wordsT:List Lab:=[[65],[78,83],[67,78,65,77,69],[83,79,65],[80,84,82],[77,88],[84,88,84],[65,65,65,65],[68,78,65,77,69]]
def pairsT:List (List Value):=(typesL.zip wordsT).map fun x=>[vi x.1,vs x.2]
theorem zjJ(w:World):Fn Tryz.prog 154 #[] w (fun v w'=>Ext w w'∧OwnK 2 w.heap.size w' 279 v pairsT):=by
 refine enter Tryz.func154 Tryz.ntmps154 rfl rfl ?_
 refine go trivial ?_
 refine rq ?_;intro gd K hgd hK
 try simp only[go_sem]
 have kb:∀(n:Int) (s:ByteArray),bdV Tryz.prog 279 [(0,vi n),(1,.string s)]=some (.agg #[vi n,.string s]):=fun n s=>by kernel_rfl
 iterate 9 (refine⟨by kernel_rfl,?_⟩;rw[kb];try simp only[go_sem])
 refine zfO (e:=279) (arr:=pairsT.flatten.toArray) (by kernel_rfl) ?_
 intro w1 hE1 hs1 hA
 try simp only[go_sem]
 refine hK _ _ ?_;clear hK hgd;clear K;try clear gd
 refine go trivial ?_
 refine rt0 Tryz.ntmps154 ?_
 exact⟨hE1,⟨by decide,.inr ⟨w.heap.size,9,_,rfl,Nat.le_refl _,hA,Nat.le_refl _,by decide,rfl,rfl⟩⟩,by decide,by decide⟩
theorem types_up:∀i (h:i+1<typesL.length),typesL[i]≤typesL[i+1]:=fun i h=>by
 have h8:i<8:=by simp[typesL]at h;omega
 have h9:i=0∨i=1∨i=2∨i=3∨i=4∨i=5∨i=6∨i=7:=by omega
 rcases h9 with rfl|rfl|rfl|rfl|rfl|rfl|rfl|rfl<;>simp[typesL]
theorem RAll_ok(w:World):Fn Tryz.prog 102 #[] w (fun v w'=>Row w' v (typesL.map vi)∧Ext w w'):=by
 refine enter Tryz.func102 Tryz.ntmps102 rfl rfl ?_
 refine go trivial ?_
 refine rc trivial (zjJ w) ?_
 rintro nv w1 ⟨hE1,hoK⟩
 obtain⟨a,c,rfl,_,hg⟩:=hoK.rowK
 clear hoK
 rw[show pairsT.length=9 from rfl]
 refine rgo trivial ?_
 have hg':∀i (hi:i<9) (hl:i<typesL.length),∃s:Lab,zal w1 (adr a (i*2)) 2=some [vi typesL[i],vs s]:=fun i hi hl=>by
  have h:=hg i hi
  have h2:i<wordsT.length:=hi
  have e:pairsT[i]'hi=[vi typesL[i],vs wordsT[i]]:=by
   simp only[pairsT,List.getElem_map,List.getElem_zip];rfl
  exact⟨wordsT[i],h.trans (congrArg some e)⟩
 refine zaA (Q:=fun e σ' ds' x=>e= .exit 0∧ds'=[]∧∃kv,σ' 1=kv∧Ext w1 x∧Own w1.heap.size x 3 kv (typesL.map vi)) ?_ ?_
 ·refine zho 9 (fun i σ x=>(σ 6=vi i∧σ 5=vi ((9:Nat):Int)∧σ 4= .slice a 9 c)∧∃kv,σ 1=kv∧Ext w1 x∧Own w1.heap.size x 3 kv ((typesL.take i).map vi)) ?_ ?_ ?_
  ·exact⟨⟨vr0,vr0,vq0⟩,.slice Option.none 0 0,vq0,Keep.refl _ _,Own.nil _ _ _⟩
  ·rintro i σ x hi q ⟨s,kv,h3,hEx,ho⟩
   have hl:i<typesL.length:=hi
   obtain⟨wd,hcs⟩:=hg' i hi hl
   have htk:typesL.take (i+1)=typesL.take i++ [typesL[i]]:=zan hl
   obtain⟨k,hk⟩:∃k,typesL[i]=k:=⟨_,rfl⟩
   rw[hk]at hcs htk
   obtain⟨xa,rfl⟩:=Option.isSome_iff_exists.1 (zao hcs)
   obtain⟨xi,hxi⟩:∃xi,adr (some xa) (i*2)=some xi:=⟨_,rfl⟩
   rw[hxi]at hcs
   have hcx:=zac hEx hcs
   refine go (an3 s q hxi) ?_
   refine rq ?_;intro gd K hgd hK
   try simp (disch:=first|omega|assumption|rfl) only[go_sem,s,q,hxi,hcx]
   refine zaQ (P:=Tryz.prog) (l:=[vi k,vs wd]) rfl (zdX rfl rfl) rfl rfl ?_
   intro y hEy hsy hC
   try simp only[go_sem]
   refine hK _ _ ?_;clear hK hgd;clear K;try clear gd
   obtain⟨c5,hc5⟩:∃c,x.heap.size=c:=⟨_,rfl⟩
   rw[hc5]at hC ⊢
   have g0:zae y (some ⟨c5,0,Option.none⟩)=some (vi k):=zab (i:=0) hC rfl
   refine go trivial ?_
   refine rq ?_;intro gd K hgd hK
   try simp (disch:=first|omega|assumption|rfl) only[go_sem,h3,g0]
   refine zcD rfl rfl rfl rfl rfl ?_
   intro y2 hE2 hs2 ho2
   try simp (disch:=first|omega|assumption|rfl) only[go_sem,h3]
   refine zch ((ho.ext hEy).ext hE2) ho2.row rfl rfl rfl rfl rfl rfl ((vq1 h3)) (vr0) (fun q hq=>by rw[List.mem_singleton.1 hq];rfl) (by simp;omega) (by decide) (by have:=hEx.size;have:=hEy.size;omega) ?_
   intro u y3 ho3 hE3 hk3 hb3
   try simp only[go_sem]
   refine hK _ _ ?_;clear hK hgd;clear K;try clear gd
   refine go (an2 s q) ?_
   exact⟨rfl,sc (an2 s q),u,vr0,hE3 w1 ((hEx.trans hEy).trans hE2) (Nat.le_refl _),by rw[htk,List.map_append];exact ho3⟩
  ·rintro σ x q ⟨s,kv,h3,hEx,ho⟩
   refine go (an2 s q) ?_
   exact⟨rfl,rfl,kv,(vq1 h3),hEx,ho⟩
 rintro _ σ _ x ⟨rfl,rfl,kv,h3,hEx,ho⟩
 have hrow:=ho.row
 obtain⟨ak,ck,rfl,hck,hgk⟩:=ho.row
 simp only[List.length_map]at hrow h3 hck
 refine go trivial ?_
 refine rc h3 (zh4 (by decide) hrow types_up) ?_
 rintro _ y hxy
 refine rgo trivial ?_
 refine rc h3 (P_ci.Clip_ok hck) ?_
 rintro _ _ ⟨rfl,rfl⟩
 refine rgo trivial ?_
 refine rt0 Tryz.ntmps102 ?_
 exact⟨⟨ak,_,by rw[List.length_map],by rw[List.length_map];exact Nat.le_refl _,fun j hj=>zaa hxy (hgk j hj)⟩,hE1.trans (hEx.trans hxy)⟩
theorem zlr{w:World}{lv:Value}{l:List Int}{n:Int}(hl:Row w lv (l.map vi))(hlen:l.length≤1000000000):
  Fn Tryz.prog 153 #[lv,vi n] w (fun v w'=>(∃k,v=vi k∧decide (k≥0)=decide (n∈l))∧w'=w):=by
 obtain⟨a,c,rfl,hga⟩:=zj0 hl
 refine enter Tryz.func153 Tryz.ntmps153 rfl rfl ?_
 refine go trivial ?_
 refine zho l.length (fun i σ v=>(σ 8=vi i∧σ 7=vi l.length∧σ 0= .slice a l.length c∧σ 1=vi n)∧v=w∧n∉l.take i) ?_ ?_ ?_
 ·exact⟨⟨vr0,vr0,vq0,vq0⟩,rfl,by simp⟩
 ·rintro i σ v hi r ⟨s,rfl,ht⟩
  obtain⟨x1,rfl,g1⟩:=hga i hi
  by_cases h:n=l[i]
  ·refine go (an4 s r g1 (decide_eq_true h)) ?_
   refine rt0 Tryz.ntmps153 ?_
   exact⟨⟨(i:Int),rfl,by rw[decide_eq_true (show(i:Int)≥0 by omega),decide_eq_true (h▸List.getElem_mem hi)]⟩,rfl⟩
  ·refine go (an4 s r g1 (decide_eq_false h)) ?_
   refine⟨rfl,sc (an2 s r),rfl,fun hm=>?_⟩
   rw[zan hi]at hm
   rcases List.mem_append.1 hm with hm|hm
   ·exact ht hm
   ·exact h (List.mem_singleton.1 hm)
 ·rintro σ v r ⟨s,rfl,ht⟩
  rw[List.take_length]at ht
  refine go (an2 s r) ?_
  refine rt0 Tryz.ntmps153 ?_
  exact⟨⟨-1,rfl,by rw[decide_eq_false ht];rfl⟩,rfl⟩
theorem zhA{w:World}{lv:Value}{l:List Int}{n:Int}(hl:Row w lv (l.map vi))(hlen:l.length≤1000000000):
  Fn Tryz.prog 101 #[lv,vi n] w (fun v w'=>v= .bool (decide (n∈l))∧w'=w):=by
 obtain⟨a,c,rfl,_⟩:=id (zj0 hl)
 refine enter Tryz.func101 Tryz.ntmps101 rfl rfl ?_
 refine go trivial ?_
 refine rc trivial (zlr (n:=n) hl hlen) ?_
 rintro _ _ ⟨⟨k,rfl,hk⟩,rfl⟩
 refine rgo hk ?_
 refine rt0 Tryz.ntmps101 ?_
 exact⟨rfl,rfl⟩
structure zh5 where
 kind:Int
 name:Nm
 ty:Int
 picks:List Int
structure SeenC(w:World)(cs:List Value)(s:zh5):Prop where
 ex:∃nv pv,cs=[vi s.kind,nv,vi s.ty,pv]∧Row w nv (s.name.map vs)∧Row w pv (s.picks.map vi)
theorem SeenC.ext{w x:World}{cs:List Value}{s:zh5}(h:SeenC w cs s)(hE:Ext w x):SeenC x cs s:=by
 obtain⟨nv,pv,e,h1,h2⟩:=h.ex
 exact⟨nv,pv,e,h1.ext hE,h2.ext hE⟩
def zcg(N:NetL)(s:zh5):Bool:=decide (zaE s.name=0) && (decide (s.ty∈typesL) && ((zdG N s.name s.ty s.picks).2 && decide ((zdG N s.name s.ty s.picks).1.fin=s.kind)))
theorem zkL{n:Nm}(h:few n=true):(∀l∈n,l.length≤100)∧n.length≤140:=by
 simp only[few,Bool.and_eq_true,List.all_eq_true,decide_eq_true_eq]at h
 exact⟨h.2,h.1⟩
theorem few_good{n:Nm}(h:few n=true)(hc:zaE n=0):zbi n=true:=by
 unfold zbi;rw[h,decide_eq_true hc];rfl
theorem zdb{w0 w:World}(hE0:Ext w0 w){cs sc:List Value}{N:NetL}{s:zh5}(hN:NetAt w0 cs N)(hG:zaV N)(hs:SeenC w sc s)(hf:few s.name=true)(hp:s.picks.length≤1000000000):
  Fn Tryz.prog 51 #[.agg cs.toArray,.agg sc.toArray] w (fun v w'=>v= .bool (zcg N s)∧Ext w w'):=by
 have hN0:=hN
 obtain⟨hsv,rv,rfl,hh,hr⟩:=hN.ex
 obtain⟨ah,ch,hhv,_⟩:=hh.open
 obtain⟨ar0,cr0,hrv,_⟩:=id hr
 obtain⟨nv,pv,rfl,hnv,hpv⟩:=hs.ex
 obtain⟨an,cn,hne,_⟩:=id hnv
 obtain⟨ap,cp,hpe,_⟩:=id hpv
 obtain⟨f1,f2⟩:=zkL hf
 refine enter Tryz.func51 Tryz.ntmps51 rfl rfl ?_
 repeat refine c_r ?_
 rw[hhv,hrv,hne,hpe]
 refine go trivial ?_
 rw[←hhv,←hrv,←hne,←hpe,zai]
 refine zaM ?_
 intro w1 hE1 hs1 hA hB
 obtain⟨b,hb⟩:∃b,w.heap.size=b:=⟨_,rfl⟩
 rw[hb]at hA hB ⊢
 have dN:zal w1 (some ⟨b,0,Option.none⟩) 4=some [hsv,rv,vi N.rw,vi N.rf]:=zah hA rfl
 have g0:zae w1 (some ⟨b+1,0,Option.none⟩)=some (vi s.kind):=zab hB rfl
 have g1:zae w1 (some ⟨b+1,1,Option.none⟩)=some nv:=zab hB rfl
 have g2:zae w1 (some ⟨b+1,2,Option.none⟩)=some (vi s.ty):=zab hB rfl
 have g3:zae w1 (some ⟨b+1,3,Option.none⟩)=some pv:=zab hB rfl
 refine go trivial ?_
 refine zaA (Q:=fun e σ' ds' v'=>e= .normal∧ds'=[]∧(σ' 2= .pointer (some ⟨b,0,Option.none⟩)∧σ' 3= .pointer (some ⟨b+1,0,Option.none⟩))∧Ext w1 v'∧σ' 17= .bool (!(decide (zaE s.name=0) && decide (s.ty∈typesL)))) ?_ ?_
 ·refine zaH (fun _=>false) [(0,true),(1,true),(2,false),(3,true),(4,true),(6,true),(7,true),(5,false),(8,false),(9,true),(10,true)] NoS mixed (by kernel_rfl) ?_;intro gd K x hgd hx hxe hK;clear hxe
  have hg4:∀n σ b,zat gd n σ (some (4,b))=zaj (ev n σ (.tmp 11)) b:=(fun n σ b=>by rw[zad,show gd 4=some 11 from(by rw[hgd];rfl)];rfl)
  simp (disch:=first|omega|assumption|rfl) only[go_sem,zaa hx g1,Nat.zero_add]
  refine Fn.mono (zht x nv s.name (hnv.ext (hE1.trans hx)) (fun l hl=>by have:=f1 l hl;omega) (by omega)) ?_
  rintro _ y ⟨rfl,hy⟩
  refine⟨.inr hy,?_⟩
  obtain⟨t1,ht1⟩:∃t,decide (zaE s.name=0)=t:=⟨_,rfl⟩
  cases t1 with
  |false=>
   simp (disch:=first|omega|assumption|rfl) only[go_sem,ht1,zbd,↓hg4]
   refine hK _ _ ?_;clear hK hgd;clear K;try clear gd
   exact⟨rfl,rfl,sc trivial,hx.trans hy,by rw[ht1];first| (simp only[go_sem];done)| (simp only[go_sem];rfl)⟩
  |true=>
   have g2y:=zaa (hx.trans hy) g2
   simp (disch:=first|omega|assumption|rfl) only[go_sem,ht1,g2y,Nat.zero_add,zbd,↓hg4]
   refine Fn.mono (RAll_ok y) ?_
   rintro lv z ⟨hlv,hz⟩
   refine⟨.inr hz,?_⟩
   have g2z:=zaa hz g2y
   simp (disch:=first|omega|assumption|rfl) only[go_sem,g2z,Nat.zero_add,zbd,↓hg4]
   refine Fn.mono (zhA (n:=s.ty) hlv (by decide)) ?_
   rintro _ _ ⟨rfl,rfl⟩
   refine⟨.inr (Keep.refl _ _),?_⟩
   simp (disch:=first|omega|assumption|rfl) only[go_sem,zbd,↓hg4]
   refine hK _ _ ?_;clear hK hgd;clear K;try clear gd
   exact⟨rfl,rfl,sc trivial,hx.trans (hy.trans hz),by rw[ht1];first| (simp only[go_sem];done)| (simp only[go_sem];rfl)⟩
 rintro _ σ1 _ w2 ⟨rfl,rfl,st,hE2,s17⟩
 have hE12:=hE1.trans hE2
 unfold zcg
 obtain⟨t1,ht1⟩:∃t,decide (zaE s.name=0)=t:=⟨_,rfl⟩
 obtain⟨t2,ht2⟩:∃t,decide (s.ty∈typesL)=t:=⟨_,rfl⟩
 rw[ht1,ht2]at s17 ⊢
 cases t1 with
 |false=>
  refine go s17 ?_
  refine rt0 Tryz.ntmps51 ?_
  exact⟨rfl,hE12⟩
 |true=>
 cases t2 with
 |false=>
  refine go s17 ?_
  refine rt0 Tryz.ntmps51 ?_
  exact⟨rfl,hE12⟩
 |true=>
 refine go (an2 st s17) ?_
 have hgq:=few_good hf (of_decide_eq_true ht1)
 have hP:=Play_ok (t:=s.ty) (hE0.trans hE12) hN0 hG (hnv.ext hE12) hgq (hpv.ext hE12) hp
 refine rq ?_;intro gd K hgd hK
 try simp (disch:=first|omega|assumption|rfl) only[go_sem,st,zac hE2 dN,zaa hE2 g1,zaa hE2 g2,zaa hE2 g3,Nat.zero_add]
 refine Fn.mono hP ?_
 rintro _ w3 ⟨hE3,xv,rfl,hxv⟩
 obtain⟨S,hS⟩:∃S,(zdG N s.name s.ty s.picks).1=S:=⟨_,rfl⟩
 obtain⟨ok,hok⟩:∃S,(zdG N s.name s.ty s.picks).2=S:=⟨_,rfl⟩
 rw[hS]at hxv
 rw[hS,hok]
 try simp only[go_sem]
 refine zaQ (P:=Tryz.prog) (l:=stV xv S) rfl (zcJ hxv.isOne) rfl rfl ?_
 intro w4 hE4 hs4 hC
 try simp only[go_sem]
 refine hK _ _ ?_;clear hK hgd;clear K;try clear gd
 have f5:zae w4 (some ⟨w3.heap.size,5,Option.none⟩)=some (vi S.fin):=zab hC rfl
 have g04:=zaa (hE2.trans (hE3.trans hE4)) g0
 have hE14:=hE12.trans (hE3.trans hE4)
 obtain⟨t3,ht3⟩:∃t,decide (S.fin=s.kind)=t:=⟨_,rfl⟩
 refine go trivial ?_
 cases ok with
 |false=>
  refine rgg [(1,30)] st ?_
  refine go trivial ?_
  refine rt0 Tryz.ntmps51 ?_
  exact⟨by rw[hok];rfl,hE14⟩
 |true=>
  refine rgg [(1,30)] (an5 st f5 g04 ht3 (an2 Nat.zero_add Nat.add_zero)) ?_
  refine go trivial ?_
  refine rt0 Tryz.ntmps51 ?_
  exact⟨by rw[hok,hS,ht3];rfl,hE14⟩
end Go.Proofs.YtahbdamijngmmaaGreat
namespace Go.Proofs.YtahbdamijngmmaaGreat.P_ss
open Go Go.Proofs.YtahbdamijngmmaaGreat
set_option maxRecDepth 10000
theorem Clip_ok{w:World}{a:Option Addr}{n c:Nat}(hc:n≤c):Fn Tryz.prog 105 #[.slice a n c] w (fun u w'=>u= .slice a n n∧w'=w):=by
 refine enter Tryz.func105 Tryz.ntmps105 rfl rfl ?_
 repeat refine c_r ?_
 refine rg0 ?_
 repeat refine c_r ?_
 refine rq ?_;intro gd K hgd hK
 try simp only[go_sem]
 have hcl:slD Tryz.prog (some (TypeDesc.slice 9)) (Value.slice a n c) Option.none (some (Value.int IntKind.i64 ↑n)) (some (Value.int IntKind.i64 ↑n))=some (.slice a n n):=zeN hc (by rfl)
 rw[hcl]
 try simp only[go_sem]
 refine hK _ _ ?_;clear hK hgd;clear K;try clear gd
 repeat refine c_r ?_
 refine rt0 Tryz.ntmps105 ?_
 exact⟨rfl,rfl⟩
end Go.Proofs.YtahbdamijngmmaaGreat.P_ss
namespace Go.Proofs.YtahbdamijngmmaaGreat
open Go
set_option maxRecDepth 10000
def zhS(N:NetL)(s:Int):Lab:=if s<0 then [] else match N.hosts[s.toNat]? with
 |some h=>zbh h.name
 |Option.none=>[]
theorem zeH{n:Nm}(hl:∀l∈n,l.length≤1000)(hn:n.length≤1000):(zbh n).length≤10000000:=by
 have h4:=zdz n
 have h5:=zfU (k:=1000) (l:=n.map List.length) (fun x hx=>by obtain⟨l,hl',rfl⟩:=List.mem_map.1 hx;exact hl l hl')
 rw[List.length_map]at h5
 unfold zbh
 split
 ·simp
 ·omega
theorem zkF{N:NetL}(hG:zaV N)(s:Int):(zhS N s).length≤10000000:=by
 unfold zhS
 split
 ·simp
 ·split
  ·rename_i h hh
   have:=hG.sh h (List.mem_of_getElem? hh)
   exact zeH (fun l hl=>by have:=this.lb l hl;omega) (by have:=this.len;omega)
  ·simp
theorem host_ok{w0 w:World}(hE0:Ext w0 w){cs:List Value}{N:NetL}{k:Int}(hN:NetAt w0 cs N)(hG:zaV N):
  Fn Tryz.prog 103 #[.agg cs.toArray,vi k] w (fun v w'=>v=vs (zhS N k)∧Ext w w'):=by
 obtain⟨hsv,rv,rfl,hh,hr⟩:=hN.ex
 obtain⟨ah,ch,hhv,_,hgh⟩:=hh.open
 obtain⟨ar0,cr0,hrv,_⟩:=id hr
 refine enter Tryz.func103 Tryz.ntmps103 rfl rfl ?_
 repeat refine c_r ?_
 rw[hhv,hrv]
 refine go trivial ?_
 rw[←hrv]
 refine zaB ?_
 intro w1 hE1 hs1 hA
 have n0:zae w1 (some ⟨w.heap.size,0,Option.none⟩)=some (.slice ah N.hosts.length ch):=zab hA rfl
 refine go trivial ?_
 unfold zhS
 by_cases h0:k<0
 ·rw[if_pos h0]
  refine rgg [(2,7)] (decide_eq_true h0) ?_
  refine go trivial ?_
  refine rt0 Tryz.ntmps103 ?_
  exact⟨rfl,hE1⟩
 rw[if_neg h0]
 have d0:=decide_eq_false h0
 by_cases h1:k≥(N.hosts.length:Int)
 ·rw[List.getElem?_eq_none (by omega)]
  refine rgg [(2,7)] (an4 n0 d0 (decide_eq_true h1) Nat.add_zero) ?_
  refine go trivial ?_
  refine rt0 Tryz.ntmps103 ?_
  exact⟨rfl,hE1⟩
 obtain⟨i,rfl⟩:=Int.eq_ofNat_of_zero_le (show 0≤k by omega)
 have hi:i<N.hosts.length:=by omega
 rw[Int.toNat_natCast,List.getElem?_eq_getElem hi]
 refine rgg [(2,7)] (an4 n0 d0 (decide_eq_false h1) Nat.add_zero) ?_
 refine go trivial ?_
 obtain⟨c6,hc6,hH⟩:=hgh i hi
 have hsh:=hG.sh _ (List.getElem_mem hi)
 obtain⟨nv,a,b,c,d,zv,rfl,_,hnv,_⟩:=hH.ex
 obtain⟨xa,rfl⟩:=Option.isSome_iff_exists.1 (zao hc6)
 obtain⟨xi,hxi⟩:∃xi,adr (some xa) (i*6)=some xi:=⟨_,rfl⟩
 rw[hxi]at hc6
 have g0:=zax (j:=0) hc6 rfl
 rw[zaz]at g0
 have hwz:Ext w0 w1:=hE0.trans hE1
 have z0:adr (some xi) 0=some xi:=zaz _
 have hi0:(0:Int)≤(i:Int):=by omega
 have hi1:(i:Int)<(N.hosts.length:Int):=by omega
 refine rc (an7 n0 Nat.add_zero hxi z0 (zaa hwz g0) hi0 hi1) (zdd w1 nv _ (hnv.ext hwz) (fun l hl=>by have:=hsh.lb l hl;omega) (by have:=hsh.len;omega)) ?_
 rintro _ w2 ⟨rfl,hE2⟩
 refine rgo trivial ?_
 refine rt0 Tryz.ntmps103 ?_
 exact⟨rfl,hE1.trans hE2⟩
def wordsE:List Lab:=[[103,111,105,110,103],[102,111,117,110,100],[101,109,112,116,121],[109,105,115,115,105,110,103],[116,111,111,108,111,110,103],[114,101,102,117,115,101,100],wLame,[108,111,111,112],[102,97,114],[103,111,110,101]]
def wordF(k:Int):Lab:=if k<0 then [] else(wordsE[k.toNat]?).getD []
theorem Word_ok(w:World)(k:Int):Fn Tryz.prog 106 #[vi k] w (fun v w'=>v=vs (wordF k)∧Ext w w'):=by
 refine enter Tryz.func106 Tryz.ntmps106 rfl rfl ?_
 refine go trivial ?_
 refine rq ?_;intro gd K hgd hK
 try simp only[go_sem]
 refine⟨by kernel_rfl,?_⟩
 rw[show bdV Tryz.prog 288 [(0,vs [103,111,105,110,103]),(1,vs [102,111,117,110,100]),(2,vs [101,109,112,116,121]),(3,vs [109,105,115,115,105,110,103]),(4,vs [116,111,111,108,111,110,103]),(5,vs [114,101,102,117,115,101,100]),(6,vs [108,97,109,101]),(7,vs [108,111,111,112]),(8,vs [102,97,114]),(9,vs [103,111,110,101])]=some (.agg wWords.toArray) from by kernel_rfl]
 try simp only[go_sem]
 refine zaQ (P:=Tryz.prog) (l:=wWords) rfl (fun v h=>by simp at h;rcases h with rfl|rfl|rfl|rfl|rfl|rfl|rfl|rfl|rfl|rfl<;>rfl) rfl rfl ?_
 intro w1 hE1 hs1 hB
 try simp only[go_sem]
 refine hK _ _ ?_;clear hK hgd;clear K;try clear gd
 unfold wordF
 refine go trivial ?_
 by_cases h0:k<0
 ·rw[if_pos h0]
  refine rgg [(2,7)] (decide_eq_true h0) ?_
  refine go trivial ?_
  refine rt0 Tryz.ntmps106 ?_
  exact⟨rfl,hE1⟩
 rw[if_neg h0]
 have d0:=decide_eq_false h0
 by_cases h1:k≥10
 ·rw[List.getElem?_eq_none (by show 10≤_;omega)]
  refine rgg [(2,7)] (an2 d0 (decide_eq_true h1)) ?_
  refine go trivial ?_
  refine rt0 Tryz.ntmps106 ?_
  exact⟨rfl,hE1⟩
 obtain⟨i,rfl⟩:=Int.eq_ofNat_of_zero_le (show 0≤k by omega)
 have hi:i<10:=by omega
 refine rgg [(2,7)] (an2 d0 (decide_eq_false h1)) ?_
 refine go trivial ?_
 have hc:zae w1 (some ⟨w.heap.size,i,Option.none⟩)=some (vs ((wordsE[i]?).getD [])):=by
  have h9:i=0∨i=1∨i=2∨i=3∨i=4∨i=5∨i=6∨i=7∨i=8∨i=9:=by omega
  rcases h9 with rfl|rfl|rfl|rfl|rfl|rfl|rfl|rfl|rfl|rfl<;>exact zab hB rfl
 have hi0:(0:Int)≤(i:Int):=by omega
 have hi1:(i:Int)<((10:Nat):Int):=by omega
 refine rq ?_;intro gd K hgd hK
 try simp (disch:=first|omega|assumption|rfl) only[go_sem,hc,hi0,hi1,Nat.zero_add,Nat.mul_one]
 refine hK _ _ ?_;clear hK hgd;clear K;try clear gd
 refine go trivial ?_
 refine rt0 Tryz.ntmps106 ?_
 exact⟨by rw[Int.toNat_natCast],hE1⟩
structure GX{α:Type}(X:World→α→Prop)(K:α→Nat→Prop)(k:Nat)(C:List Value→α→Prop)(e:TypeId)(B:Nat)(A:World)(ov:Value)(G:List α):Prop where
 own:Owns k C B A e ov G
 row:∀x∈G,X A x∧(∀b,K x b→B≤b∧b<A.heap.size)∧∀b,K x b→some b≠ov.ownBlock
section
variable {α : Type} {X : World → α → Prop} {K : α → Nat → Prop} {k : Nat} {C : List Value → α → Prop} {e : TypeId} {B : Nat} {A A' A1 A2 : World} {ov ov' : Value} {G : List α}
end
abbrev ZX:=zb5×(Value×(Value×List OX))
def zxX(w0:World)(A:World)(x:ZX):Prop:=Row w0 x.2.1 (x.1.o.map vs)∧x.2.2.2.map Prod.fst=x.1.recs∧∃B,OI w0 B A x.2.2.1 x.2.2.2
def zxK(x:ZX)(b:Nat):Prop:=some b=x.2.2.1.ownBlock∨∃y∈x.2.2.2,∃a n c,y.2.1= .slice (some a) n c∧b=a.block
def zxC(cs:List Value)(x:ZX):Prop:=cs=[x.2.1,x.2.2.1]∧one x.2.1=true∧one x.2.2.1=true
abbrev HX:=zdV×(Value×(List Value×List ZX))
def hxX(w0:World)(ez:TypeId)(A:World)(x:HX):Prop:=(∃nv a b c d,x.2.2.1=[nv,zaf a,zaf b,zaf c,zaf d,x.2.1]∧x.1.addr=[a,b,c,d]∧Row w0 nv (x.1.name.map vs))∧x.2.2.2.map Prod.fst=x.1.zones∧∃B,GX (zxX w0) zxK 2 zxC ez B A x.2.1 x.2.2.2
theorem zgJ{N:NetL}{t:Int}(hG:zaV N):∀{ch:List Int} {L:List zaq},(∀s∈L,GoodSt N s)→∀x∈za4 N t ch L,(x.2=true→GoodSt N x.1)∧(x.2=false→x.1=stZ)
 | [],L,_,x,hx=>by cases hx
 |c::cs,L,hL,x,hx=>by
  unfold za4 at hx
  have hz:∀x,x∈ [(stZ,false)]→(x.2=true→GoodSt N x.1)∧(x.2=false→x.1=stZ):=fun x h=>by
   rw[List.mem_singleton.1 h]
   exact⟨fun h=>by (cases h),fun _=>rfl⟩
  split at hx
  ·exact hz x hx
  ·split at hx
   ·rename_i s hs
    have hg:=hL s (List.mem_of_getElem? hs)
    rcases List.mem_cons.1 hx with rfl|hx
    ·exact⟨fun _=>hg,fun h=>by (cases h)⟩
    ·exact zgJ hG (fun y hy=>(zgV hG hg hy).2.g) x hx
   ·exact hz x hx
def ziZ(N:NetL)(x:zaq×Bool):Lab:=zhS N x.1.sv++ [32]++zbh x.1.name
def wayF(N:NetL)(F:List (zaq×Bool)):List Lab:=if F=[] then [] else F.map (ziZ N)++ [wordF (F.getLastD (stZ,false)).1.fin]
def pathF(N:NetL)(s:zh5):List Lab:=wayF N ((za4 N s.ty s.picks (za0 N s.name)).takeWhile (·.2))
theorem zgx{pre suf:List (zaq×Bool)}(h:∀x∈pre,x.2=true)(hs:suf=[]∨∃x r,suf=x::r∧x.2=false):(pre++suf).takeWhile (·.2)=pre:=by
 induction pre with
 |nil=>
  rcases hs with rfl| ⟨x,r,rfl,hx⟩
  ·rfl
  ·rw[List.nil_append,List.takeWhile_cons,hx];rfl
 |cons a l ih=>
  rw[List.cons_append,List.takeWhile_cons,h a (by simp)]
  simp[ih fun x hx=>h x (by simp[hx])]
theorem zgK{N:NetL}{t:Int}:∀{ch:List Int} {L:List zaq},(za4 N t ch L).length≤ch.length
 | [],_=>Nat.le_refl _
 |c::cs,L=>by
  unfold za4
  split
  ·simp
  ·split
   ·rw[List.length_cons,List.length_cons]
    exact Nat.succ_le_succ zgK
   ·simp
theorem zlm{w0 w:World}(hE0:Ext w0 w){cs sc:List Value}{N:NetL}{s:zh5}(hN:NetAt w0 cs N)(hG:zaV N)(hs:SeenC w sc s)(hgq:zbi s.name=true)(hp:s.picks.length≤1000000):
  Fn Tryz.prog 52 #[.agg cs.toArray,.agg sc.toArray] w (fun v w'=>Row w' v ((pathF N s).map vs)∧Ext w w'):=by
 have hN0:=hN
 obtain⟨hsv,rv,rfl,hh,hr⟩:=id hN.ex
 obtain⟨ah,ch0,hhv,_⟩:=hh.open
 obtain⟨ar0,cr0,hrv,_⟩:=id hr
 obtain⟨qv,cv,rfl,hq,hcv⟩:=hs.ex
 obtain⟨aq,cq,hqe,_⟩:=id hq
 obtain⟨ac,cc,hce,_⟩:=id hcv
 refine enter Tryz.func52 Tryz.ntmps52 rfl rfl ?_
 repeat refine c_r ?_
 rw[hhv,hrv,hqe,hce]
 refine go trivial ?_
 rw[←hhv,←hrv,←hqe,←hce,zai,zai,zai]
 refine zcz ?_
 intro w1 hE1 hs1 hA hB hC
 obtain⟨b,hb⟩:∃b,w.heap.size=b:=⟨_,rfl⟩
 rw[hb]at hA hB hC hs1 ⊢
 rw[show b+1+1=b+2 from rfl]at hC ⊢
 refine rq ?_;intro gd K hgd hK
 try simp only[go_sem]
 rw[hs1]
 refine zjQ ?_
 intro z hEz hsz hD
 rw[hs1]at hD
 refine zcB rfl rfl rfl hD (by simp) (by simp) ?_
 intro w2 hs2 hD2 hk2
 try simp only[go_sem]
 refine hK _ _ ?_;clear hK hgd;clear K;try clear gd
 have hE2:Ext w1 w2:=Keep.to_ext hEz rfl (fun i hi=>by omega) hk2
 have hA2:=Ext.at hE2 hA
 have hB2:=Ext.at hE2 hB
 have hC2:=Ext.at hE2 hC
 have hEw2:=hE1.trans hE2
 have hz2:w2.heap.size=b+4:=by omega
 have dN:zal w2 (some ⟨b,0,Option.none⟩) 4=some [hsv,rv,vi N.rw,vi N.rf]:=zah hA2 rfl
 have g1:zae w2 (some ⟨b+1,1,Option.none⟩)=some qv:=zab hB2 rfl
 have g2:zae w2 (some ⟨b+1,2,Option.none⟩)=some (vi s.ty):=zab hB2 rfl
 have g3:zae w2 (some ⟨b+1,3,Option.none⟩)=some cv:=zab hB2 rfl
 clear hEz hsz hD hs2 hk2 hA hB hC
 refine go trivial ?_
 refine rc (an5 dN g1 g2 g3 Nat.zero_add) (ziP w2) ?_
 rintro _ w3 ⟨rfl,hE3,hs3,k1,k2,k3,k4⟩
 refine re trivial ?_
 obtain⟨m,hm⟩:∃m,w2.heap.size=m:=⟨_,rfl⟩
 rw[hm]at k1 k2 k3 k4 hs3 hz2 ⊢
 have k2':w3.heap[m+1]? =some (.cells #[qv] 27 (0,0)):=by rw[k2,hqe];rfl
 have k4':w3.heap[m+3]? =some (.cells #[cv] 23 (0,0)):=by rw[k4,hce];rfl
 have hC3:=Ext.at hE3 hC2
 have hD3:=Ext.at hE3 hD2
 have dN3:=zac hE3 dN
 have hEw3:=hEw2.trans hE3
 obtain⟨F,hF⟩:∃F,za4 N s.ty s.picks (za0 N s.name)=F:=⟨_,rfl⟩
 have hFl:F.length≤1000000:=by rw[←hF];exact Nat.le_trans zgK hp
 have hFg:=zgJ (t:=s.ty) (ch:=s.picks) hG (zeL hG hgq)
 rw[hF]at hFg
 unfold pathF
 rw[hF]
 refine c_r ?_
 refine zaA (Q:=fun e σ' ds' v=>e= .normal∧ds'=[{target:= .collected w3.heap.size,args:=#[]}]∧(σ' 5= .pointer (some ⟨b+2,0,Option.none⟩)∧σ' 6= .pointer (some ⟨b+3,0,Option.none⟩))∧v.heap[w3.heap.size]? =some (.deferred (some []))∧w3.heap.size+2≤v.heap.size∧
  ∃G ov,F.takeWhile (·.2)=G∧v.heap[b+2]? =some (.cells #[ov] 26 (0,0))∧v.heap[b+3]? =some (.cells #[vi (G.getLastD (stZ,false)).1.fin] 3 (0,0))∧Own (w3.heap.size+2) v 9 ov ((G.map (ziZ N)).map vs)∧Ext w v∧G.length≤1000000) ?_ ?_
 ·refine c_r ?_
  refine zdS (own:=0) (n0:=w3.heap.size) (C:=fun i=>i=b+2∨i=b+3) (W0:=w3) (vq0) (by rfl)
   (zkb (w0:=w0) (w1:=w) (t:=s.ty) (ch:=s.picks) (q:=s.name) hE0 hEw3 k1 k2' k4' k3 (fun i hi=>by omega) (by omega) hN0 hG hq hgq hcv (by omega)) (Keep.refl _ _) (Nat.le_refl _) (fun i hi=>by omega)
   (fun x U A args h=>by obtain⟨nv,rfl,_⟩:=h;rfl)
   (fun pre U A=>(∀x∈pre,x.2=true)∧∃ov,A.heap[b+2]? =some (.cells #[ov] 26 (0,0))∧A.heap[b+3]? =some (.cells #[vi (pre.getLastD (stZ,false)).1.fin] 3 (0,0))∧Own (w3.heap.size+2) A 9 ov ((pre.map (ziZ N)).map vs)∧(∀i,some i=ov.ownBlock→U i)∧A.heap[b]? =some (.cells #[hsv,rv,vi N.rw,vi N.rf] 25 (0,0))∧Ext w A)
   (fun c pre' A=>c= .exit 0∧∃pre x ov,pre'=pre++ [x]∧x.2=false∧(∀x∈pre,x.2=true)∧A.heap[b+2]? =some (.cells #[ov] 26 (0,0))∧A.heap[b+3]? =some (.cells #[vi (pre.getLastD (stZ,false)).1.fin] 3 (0,0))∧Own (w3.heap.size+2) A 9 ov ((pre.map (ziZ N)).map vs)∧Ext w A) ?_ ?_ ?_ ?_ ?_ ?_
  ·rintro pre U A B ⟨ht,ov,h1,h2,ho,hu,hn,hE⟩ hU hk
   have hno:∀i,i<w3.heap.size→¬span w3.heap.size (2+0) i:=fun i h1 h2=>by unfold span at h2;omega
   have l1:=(Array.getElem?_eq_some_iff.1 h1).1
   have l2:=(Array.getElem?_eq_some_iff.1 h2).1
   exact⟨ht,ov,(hk.block _ l1 (hno _ (by omega))).trans h1,(hk.block _ l2 (hno _ (by omega))).trans h2,ho.keep hk fun i hi hs=>by have:=hU i (hu i hi);unfold span at hs;omega,hu,(hk.block _ (by omega) (hno _ (by omega))).trans hn,Keep.to_ext hE rfl (fun i hi=>by unfold span at hi;omega) hk⟩
  ·rintro c pre' A B ⟨rfl,pre,x,ov,e,hx,ht,h1,h2,ho,hE⟩ hk
   have hno:∀i,i<w3.heap.size→¬span w3.heap.size (2+0) i:=fun i h1 h2=>by unfold span at h2;omega
   have l1:=(Array.getElem?_eq_some_iff.1 h1).1
   have l2:=(Array.getElem?_eq_some_iff.1 h2).1
   exact⟨rfl,pre,x,ov,e,hx,ht,(hk.block _ l1 (hno _ (by omega))).trans h1,(hk.block _ l2 (hno _ (by omega))).trans h2,ho.keep hk fun i hi hs=>by have:=(ho.ge hi).1;unfold span at hs;omega,Keep.to_ext hE rfl (fun i hi=>by unfold span at hi;omega) hk⟩
  ·exact⟨(fun x hx=>by cases hx),.slice Option.none 0 0,hC3,hD3,Own.nil _ _ _,(fun i hi=>by cases hi),Ext.at hE3 hA2,hEw3⟩
  ·rintro lp pre U ⟨S,ok⟩ A args ⟨suf,hsp⟩ hszA ⟨ht,ov,h1,h2,ho,hu,hn,hE⟩ hUb ⟨xv,rfl,hx⟩
   rw[hF]at hsp
   have hmS:=hFg (S,ok) (by rw[hsp];simp)
   have hpl:pre.length≤1000000:=by rw[hsp]at hFl;simp at hFl;omega
   have l1:=(Array.getElem?_eq_some_iff.1 h1).1
   have l2:=(Array.getElem?_eq_some_iff.1 h2).1
   refine go trivial ?_
   refine rq ?_;intro gd K hgd hK
   try simp only[go_sem]
   refine zaQ (P:=Tryz.prog) (l:=stV xv S) rfl (zcJ hx.1.isOne) rfl rfl ?_
   intro A1 hEA1 hs1' hB7
   try simp only[go_sem]
   refine hK _ _ ?_;clear hK hgd;clear K;try clear gd
   refine go trivial ?_
   refine⟨rfl,hEA1.mono fun _ _ h=>h.elim,fun A3 hk3=>?_⟩
   have hno:∀i,i<w3.heap.size→¬two w3.heap.size i:=fun i h1 h2=>by unfold two at h2;omega
   have hno2:∀i,w3.heap.size+2≤i→¬two w3.heap.size i:=fun i h1 h2=>by unfold two at h2;omega
   have hE3':Ext w A3:=Keep.to_ext (hE.trans hEA1) rfl (fun i hi=>by unfold two at hi;omega) hk3
   have hs3':=hk3.size
   have h1':=(hk3.block _ (by omega) (hno _ (by omega))).trans (Ext.at hEA1 h1)
   have h2':=(hk3.block _ (by omega) (hno _ (by omega))).trans (Ext.at hEA1 h2)
   have hB7':=(hk3.block _ (by omega) (hno2 _ (by omega))).trans hB7
   have ho':=(ho.ext hEA1).keep hk3 fun i hi hs=>by have:=(ho.ge hi).1;unfold two at hs;omega
   cases ok with
   |false=>
    refine go trivial ?_
    exact⟨⟨rfl,pre,(S,false),ov,rfl,rfl,ht,h1',h2',ho',hE3'⟩,Keep.refl _ _⟩
   |true=>
   have gS:=hmS.1 rfl
   have gm:=zbZ gS.nm
   have hxv:Row A3 xv (S.name.map vs):=by
    by_cases hl:S.name=[]
    ·have h6:=hx.1
     rw[hl]at h6 ⊢
     obtain⟨a1,c1,e1,e2,_⟩:=h6
     exact⟨a1,c1,e1,e2,fun j hj=>absurd hj (by simp)⟩
    ·have h6:=hx.1.ext hEA1
     refine h6.blocks fun a n c e=>?_
     obtain⟨q1,q2⟩:=hx.2 (fun h=>hl (by simpa using h)) a n c e
     refine hk3.block _ (by omega) fun h=>q2 (.inl (.inr ?_))
     unfold two at h;omega
   have e5:zae A3 (some ⟨b+2,0,Option.none⟩)=some ov:=zab (i:=0) h1' rfl
   have l3:=(Array.getElem?_eq_some_iff.1 hB7').1
   have hn':=(hk3.block _ (by omega) (hno _ (by omega))).trans (Ext.at hEA1 hn)
   have dN3:zal A3 (some ⟨b,0,Option.none⟩) 4=some [hsv,rv,vi N.rw,vi N.rf]:=zah hn' rfl
   obtain⟨c7,hc7⟩:∃c,A.heap.size=c:=⟨_,rfl⟩
   rw[hc7]at hB7' l3 hszA hs1' hUb ⊢
   have f0:zae A3 (some ⟨c7,0,Option.none⟩)=some (vi S.sv):=zab hB7' rfl
   have f1:zae A3 (some ⟨c7,1,Option.none⟩)=some xv:=zab hB7' rfl
   have t1:=zkF hG S.sv
   have t2:(zbh S.name).length≤10000000:=zeH (fun l hl=>by have:=(zkL (Bool.and_eq_true_iff.1 gS.nm).1).1 l hl;omega) (by have:=gm.len;omega)
   have a1:(zhS N S.sv).length+([32]:Lab).length≤9223372036854775807:=by rw[List.length_singleton];omega
   have a2:(zhS N S.sv++ [32]).length+(zbh S.name).length≤9223372036854775807:=by rw[List.length_append,List.length_singleton];omega
   refine go trivial ?_
   refine zaA (Q:=fun e σ' ds' B=>e= .normal∧ds'=[]∧(σ' 6= .pointer (some ⟨b+3,0,Option.none⟩)∧σ' 7= .pointer (some ⟨c7,0,Option.none⟩))∧∃u y,Ext A3 y∧B.heap[b+2]? =some (.cells #[u] 26 (0,0))∧Own (w3.heap.size+2) B 9 u (((pre++ [(S,true)]).map (ziZ N)).map vs)∧(∀i,some i=u.ownBlock→some i=ov.ownBlock∨A3.heap.size≤i)∧Keep (fun i=>i=b+2∨some i=ov.ownBlock) y B) ?_ ?_
   ·refine zaH (fun i=>i==11||i==12) [(0,true),(1,true),(2,true),(3,true),(6,true),(7,true),(4,false),(5,true),(8,false),(9,true),(10,false),(11,false),(12,false)] NoS mixed (by kernel_rfl) ?_;intro gd K x hgd hx hxe hK;clear hxe
    have e5x:=zaa hx e5
    have f0x:=zaa hx f0
    have f1x:=zaa hx f1
    have dNx:=zac hx dN3
    simp (disch:=first|omega|assumption|rfl) only[go_sem,e5x,dNx,f0x,f1x,Nat.zero_add,Nat.add_zero]
    refine Fn.mono (host_ok (k:=S.sv) (hE0.trans (hE3'.trans hx)) hN0 hG) ?_
    rintro _ y ⟨rfl,hy⟩
    refine⟨.inr hy,?_⟩
    simp (disch:=first|omega|assumption|rfl) only[go_sem]
    refine Fn.mono (zdd y xv S.name (hxv.ext (hx.trans hy)) (fun l hl=>by have:=gm.m.lb l hl;omega) (by have:=gm.len;omega)) ?_
    rintro _ z ⟨rfl,hz⟩
    refine⟨.inr hz,?_⟩
    simp (disch:=first|omega|assumption|rfl) only[go_sem]
    refine zcD (z:=vs []) rfl rfl rfl rfl rfl ?_
    intro y3 hy3 hs3y ho3
    refine⟨.inr hy3.keep,?_⟩
    simp (disch:=first|omega|assumption|rfl) only[go_sem]
    have hA3y:=hx.trans (hy.trans (hz.trans hy3))
    have hys:=hA3y.size
    refine zch (B:=w3.heap.size+2) (ho'.ext hA3y) ho3.row rfl rfl rfl rfl rfl rfl (vr0) (vr0) (fun q hq=>by rw[List.mem_singleton.1 hq];rfl) (by simp;omega) (by decide) (by omega) ?_
    intro u y4 ho4 hE4 hk4 hb4
    refine⟨.inl rfl,?_⟩
    simp (disch:=first|omega|assumption|rfl) only[go_sem]
    have hb2:=(hk4.block _ (by omega) (fun h=>by have:=(ho.ge h).1;omega)).trans (Ext.at hA3y h1')
    refine zcB rfl rfl ho4.row.isOne hb2 (by simp) (by simp) ?_
    intro y5 hs5 hD5 hk5
    refine⟨.inl rfl,?_⟩
    simp (disch:=first|omega|assumption|rfl) only[go_sem]
    refine hK _ _ ?_;clear hK hgd;clear K;try clear gd
    refine⟨rfl,rfl,sc trivial,u,y3,hA3y,hD5,?_,fun i hi=>(hb4 i hi).imp id fun h=>by omega,(hk4.mono fun i _ h=> .inr h).trans (hk5.mono fun i _ h=> .inl h)⟩
    have:=ho4.keep hk5 fun i hi h=>by have:=(ho4.ge hi).1;omega
    rw[List.map_append,List.map_append]
    exact this
   rintro _ σ1 _ A4 ⟨rfl,rfl,st,u,y,hyE,hu2,hou,hub,hkB⟩
   have hys:=hyE.size
   have h46:=hkB.size
   have hB74:=(hkB.block _ (by omega) (fun h=>h.elim (by omega) fun h=>by have:=hUb _ (hu _ h);omega)).trans (Ext.at hyE hB7')
   have h24:=(hkB.block _ (by omega) (fun h=>h.elim (by omega) fun h=>by have:=(ho.ge h).1;omega)).trans (Ext.at hyE h2')
   have hn4:=(hkB.block _ (by omega) (fun h=>h.elim (by omega) fun h=>by have:=(ho.ge h).1;omega)).trans (Ext.at hyE hn')
   have f5:zae A4 (some ⟨c7,5,Option.none⟩)=some (vi S.fin):=zab hB74 rfl
   refine go trivial ?_
   refine rq ?_;intro gd K hgd hK
   try simp (disch:=first|omega|assumption|rfl) only[go_sem,st,f5,Nat.zero_add]
   refine zcB rfl rfl rfl h24 (by simp) (by simp) ?_
   intro A5 hs5 hD5 hk5
   try simp only[go_sem]
   refine hK _ _ ?_;clear hK hgd;clear K;try clear gd
   refine go trivial ?_
   have hl:(pre++ [(S,true)]).getLastD (stZ,false)=(S,true):=by rw[List.getLastD_eq_getLast?];simp
   have hkall:Keep (fun i=>(i=b+2∨i=b+3)∨U i) A3 A5:=((hyE.mono fun _ _ h=>h.elim).trans (hkB.mono fun i _ h=>h.elim (fun h=> .inl (.inl h)) fun h=> .inr (hu _ h))).trans (hk5.mono fun i _ h=> .inl (.inr h))
   refine⟨fun i=>some i=u.ownBlock,⟨?_,u,(hk5.block _ (by omega) (by omega)).trans hu2,?_,hou.keep hk5 fun i hi h=>by have:=(hou.ge hi).1;omega,fun i hi=>hi,(hk5.block _ (by omega) (by omega)).trans hn4,Keep.to_ext (Keep.to_ext (hE3'.trans hyE) rfl (fun i hi=>hi.elim (by omega) fun h=>by have:=(ho.ge h).1;omega) hkB) rfl (fun i hi=>by omega) hk5⟩,fun i hi=>?_,hkall⟩
   ·intro x hx
    rcases List.mem_append.1 hx with hx|hx
    ·exact ht x hx
    ·rw[List.mem_singleton.1 hx]
   ·rw[hl];exact hD5
   ·have:=(hou.ge hi).2
    rcases hub i hi with h|h
    ·exact .inl (hu _ h)
    ·exact .inr ⟨h,by omega⟩
  ·rintro xs U v hxs hsz hUv ⟨ht,ov,h1,h2,ho,hu,hn,hE⟩ hDv
   rw[hF]at hxs
   subst hxs
   refine go trivial ?_
   refine⟨rfl,rfl,sc trivial,hDv,hsz,xs,ov,?_,h1,h2,ho,hE,hFl⟩
   have:=zgx (suf:=[]) ht (.inl rfl)
   rwa [List.append_nil]at this
  ·rintro c pre' x v hsz ⟨suf,hsp⟩ ⟨rfl,pre,x',ov,e,hx,ht,h1,h2,ho,hE⟩ hDv
   obtain⟨rfl,e2⟩:=List.append_inj' e rfl
   obtain rfl:=(List.cons.inj e2).1
   rw[hF]at hsp
   refine go trivial ?_
   refine⟨rfl,rfl,sc trivial,hDv,hsz,_,ov,rfl,?_⟩
   rw[hsp,zgx ht (.inr ⟨x,suf,rfl,hx⟩)]
   exact⟨h1,h2,ho,hE,by rw[hsp]at hFl;simp at hFl;omega⟩
 rintro _ σ1 _ v ⟨rfl,rfl,st,hDv,hvs2,G,ov,hG',h1,h2,ho,hE,hGl⟩
 rw[hG']
 unfold wayF
 have e5:zae v (some ⟨b+2,0,Option.none⟩)=some ov:=zab (i:=0) h1 rfl
 have e6:zae v (some ⟨b+3,0,Option.none⟩)=some (vi (G.getLastD (stZ,false)).1.fin):=zab (i:=0) h2 rfl
 have l1:=(Array.getElem?_eq_some_iff.1 h1).1
 obtain⟨ao,co,hov⟩:=ho.slice
 simp only[List.length_map]at hov
 by_cases hg0:G=[]
 ·rw[if_pos hg0]
  subst hg0
  rw[hov]at e5
  refine go (an2 st e5) ?_
  refine zba (.inr rfl) Tryz.ntmps52 rfl hDv ?_
  intro y hk hs
  exact⟨_,zak (v:= .slice Option.none 0 0) (vr0) zav,⟨Option.none,0,rfl,Nat.le_refl _,fun j h=>by simp at h⟩,Keep.to_ext hE rfl (fun i hi=>by have:=hEw3.size;omega) hk⟩
 rw[if_neg hg0]
 have hd:decide ((G.length:Int)=0)=false:=decide_eq_false (by have:=List.length_pos_iff.2 hg0;omega)
 have e5':=e5
 rw[hov]at e5'
 refine go (an3 st e5' hd) ?_
 refine zaA (Q:=fun e σ' ds' y=>e= .normal∧ds'=[{target:= .collected w3.heap.size,args:=#[]}]∧∃u,σ' 4=u∧Row y u ((G.map (ziZ N)++ [wordF (G.getLastD (stZ,false)).1.fin]).map vs)∧BlkB (w3.heap.size+2) y u∧y.heap[w3.heap.size]? =some (.deferred (some []))∧Ext w y) ?_ ?_
 ·refine zaH (fun i=>i==4||i==5) [(0,true),(1,true),(2,false),(3,false),(4,false),(5,false),(6,true)] NoS mixed (by kernel_rfl) ?_;intro gd K x hgd hx hxe hK;clear hxe
  have e5x:=zaa hx e5
  have e6x:=zaa hx e6
  simp (disch:=first|omega|assumption|rfl) only[go_sem,st,e5x,e6x]
  refine Fn.mono (Word_ok x _) ?_
  rintro _ y ⟨rfl,hy⟩
  refine⟨.inr hy,?_⟩
  simp (disch:=first|omega|assumption|rfl) only[go_sem]
  refine zcD (z:=vs []) rfl rfl rfl rfl rfl ?_
  intro y3 hy3 hs3y ho3
  refine⟨.inr hy3.keep,?_⟩
  simp (disch:=first|omega|assumption|rfl) only[go_sem]
  have hvy:=hx.trans (hy.trans hy3)
  have hys:=hvy.size
  have hvs:=(Array.getElem?_eq_some_iff.1 hDv).1
  refine zch (B:=w3.heap.size+2) (ho.ext hvy) ho3.row rfl rfl rfl rfl rfl rfl (vr0) (vr0) (fun q hq=>by rw[List.mem_singleton.1 hq];rfl) (by simp;omega) (by decide) (by omega) ?_
  intro u y4 ho4 hE4 hk4 hb4
  refine⟨.inl rfl,?_⟩
  rw[←List.map_singleton (f:=vs),←List.map_append]at ho4
  have hrow4:=ho4.row
  have hblk4:∀i,some i=u.ownBlock→w3.heap.size+2≤i∧i<y4.heap.size:=fun i hi=>ho4.ge hi
  obtain⟨au,cu,rfl,hcu,hgu⟩:=ho4.row
  simp (disch:=first|omega|assumption|rfl) only[go_sem]
  refine Fn.mono (P_ss.Clip_ok hcu) ?_
  rintro _ _ ⟨rfl,rfl⟩
  refine⟨.inl rfl,?_⟩
  simp (disch:=first|omega|assumption|rfl) only[go_sem]
  refine hK _ _ ?_;clear hK hgd;clear K;try clear gd
  refine⟨rfl,rfl,_,vr0,⟨au,_,rfl,Nat.le_refl _,hgu⟩,fun a n c e=>?_,(hk4.block _ (by omega) (fun h=>by have:=(ho.ge h).1;omega)).trans (Ext.at hvy hDv),hE4 w (hE.trans hvy) (by have:=hEw3.size;omega)⟩
  injection e with e1 e2 e3
  subst e1
  exact hblk4 _ rfl
 rintro _ σ2 _ y ⟨rfl,rfl,u,s4,hru,hbu,hDy,hEy⟩
 refine go trivial ?_
 refine zba (.inr rfl) Tryz.ntmps52 rfl hDy ?_
 intro y2 hk hs
 exact⟨_,zak (v:=u) ((vq1 s4)) zav,hru.blocks fun a n c e=>hk.block _ (hbu a n c e).2 (by have:=(hbu a n c e).1;omega),Keep.to_ext hEy rfl (fun i hi=>by have:=hEw3.size;omega) hk⟩
theorem zir{N:NetL}{s:zaq}{t:Int}(h:s.fin≠0):zbD N s t=[]:=by unfold zbD;rw[if_neg h]
theorem Pl.more{N:NetL}{t:Int}{s:zaq}{r:List Int}:∀{ch:List Int} {L:List zaq},Pl N t ch L s→za4 N t (ch++r) L=za4 N t ch L++za4 N t r (zbD N s t)
 | [],_,h=>h.elim
 |c::cs,L,⟨j,hc,x,hx,h⟩=>by
  subst hc
  obtain⟨hj,rfl⟩:=List.getElem?_eq_some_iff.1 hx
  rw[List.cons_append,zdF hj,zdF hj]
  rcases h with ⟨rfl,rfl⟩|h
  ·simp[za4]
  ·rw[Pl.more h];rfl
theorem Pl.less{N:NetL}{t:Int}{s:zaq}{c:Int}:∀{ch:List Int} {L:List zaq},Pl N t (ch++ [c]) L s→ch=[]∨∃s',Pl N t ch L s'∧s'.fin=0
 | [],_,_=> .inl rfl
 |a::ch,L,⟨j,hc,x,hx,h⟩=>by
  rcases h with ⟨h,_⟩|h
  ·simp at h
  ·refine .inr ?_
   have hx0:x.fin=0:=Decidable.byContradiction fun h0=>by
    rw[zir h0]at h
    cases ch with
    |nil=>obtain⟨_,_,_,h,_⟩:=h;simp at h
    |cons b ch=>obtain⟨_,_,_,h,_⟩:=h;simp at h
   rcases Pl.less h with rfl| ⟨s',h1,h2⟩
   ·exact⟨x,⟨j,hc,x,hx,.inl ⟨rfl,rfl⟩⟩,hx0⟩
   ·exact⟨s',⟨j,hc,x,hx,.inr h1⟩,h2⟩
structure EndR(N:NetL)(q:Nm)(t:Int)(e:Int×List Int):Prop where
 ok:zcg N ⟨e.1,q,t,e.2⟩=true
 more:zcg N ⟨e.1,q,t,e.2++ [0]⟩=false
 less:zcg N ⟨e.1,q,t,e.2.dropLast⟩=false
 wrong:∀o,zcg N ⟨o,q,t,e.2⟩=decide (o=e.1)
 ne:e.2≠ []
 len:e.2.length≤4098
theorem Shut.right{N:NetL}{t:Int}{q:Nm}{row:List MetL}(h:Shut N t q row)(hq:zbi q=true)(ht:t∈typesL){e:Int×List Int}(he:e∈zha row):EndR N q t e:=by
 obtain⟨k,p⟩:=e
 obtain⟨x,hx,_,h1,rfl,h0⟩:=in_ends he
 have hp:=h.pl x hx
 have hpl:zdG N q t x.2=(x.1,true):=hp.play
 have hc:zaE q=0:=by unfold zbi at hq;exact of_decide_eq_true (Bool.and_eq_true_iff.1 hq).2
 have c1:decide (zaE q=0)=true:=decide_eq_true hc
 have c2:decide (t∈typesL)=true:=decide_eq_true ht
 have hne:=hp.ne
 refine⟨?_,?_,?_,fun o=>?_,hne,h.p x hx⟩
 ·unfold zcg;dsimp only;rw[c1,c2,hpl,decide_eq_true h1];rfl
 ·have hm:zdG N q t (x.2++ [0])=(stZ,false):=by
   unfold zdG
   rw[hp.more,zir (by rw[h1];exact h0),List.getLastD_eq_getLast?]
   simp[za4]
  unfold zcg;dsimp only;rw[c1,c2,hm];rfl
 ·have hd:x.2.dropLast++ [x.2.getLast hne]=x.2:=List.dropLast_concat_getLast hne
  rw[←hd]at hp
  rcases hp.less with h2| ⟨s',h2,h3⟩
  ·have hm:zdG N q t x.2.dropLast=(stZ,false):=by rw[h2];rfl
   unfold zcg;dsimp only;rw[c1,c2,hm];rfl
  ·have hm:zdG N q t x.2.dropLast=(s',true):=h2.play
   unfold zcg;dsimp only;rw[c1,c2,hm,h3,decide_eq_false (fun h=>h0 h.symm)];rfl
 ·unfold zcg;dsimp only;rw[c1,c2,hpl,h1,Bool.true_and,Bool.true_and,Bool.true_and]
  exact decide_eq_decide.2 ⟨Eq.symm,Eq.symm⟩
theorem Types_ok(w:World):Fn Tryz.prog 55 #[] w (fun v w'=>Row w' v (typesL.map vi)∧Ext w w'):=by
 refine enter Tryz.func55 Tryz.ntmps55 rfl rfl ?_
 refine go trivial ?_
 refine rq ?_;intro gd K hgd hK
 try simp only[go_sem]
 refine zbw (z:=vi 0) (l:=typesL.map vi) rfl rfl rfl rfl rfl rfl (zkj typesL) (by decide) ?_
 intro w1 hE1 hs1 ho
 try simp only[go_sem]
 refine hK _ _ ?_;clear hK hgd;clear K;try clear gd
 refine go trivial ?_
 refine rt0 Tryz.ntmps55 ?_
 exact⟨ho.row,hE1⟩
def zjV:zh5:=⟨1,kX,1,[0,0,0]⟩
theorem small_r1:zcg smallN zjV=true:=by kernel_rfl
theorem small_r2:zcg smallN {zjV with kind:=6}=false:=by kernel_rfl
theorem zi1:pathF smallN zjV=[[97,46,32,120,46,111,46],[98,46,111,46,32,120,46,111,46],[98,46,111,46,32,120,46,111,46],[102,111,117,110,100]]:=by kernel_rfl
theorem zi2:pathF smallN ⟨0,[],0,[]⟩=[]:=by kernel_rfl
theorem nil_good:zbi []=true:=by kernel_rfl
theorem kX_few:few kX=true:=by kernel_rfl
theorem zjD(w:World):Fn Tryz.prog 47 #[] w (fun v w'=>v= .bool true∧Ext w w'):=by
 refine enter Tryz.func47 Tryz.ntmps47 rfl rfl ?_
 refine go trivial ?_
 refine rq ?_;intro gd K hgd hK
 try simp only[go_sem]
 refine Fn.mono (Small_ok w) ?_
 rintro _ w1 ⟨hE1,cs,rfl,hN⟩
 obtain⟨hv,rv,rfl,hh,hr⟩:=id hN.ex
 have hh1:=hh.isOne
 have hr1:=hr.isOne
 try simp only[go_sem]
 refine zaQ (P:=Tryz.prog) (l:=[hv,rv,vi smallN.rw,vi smallN.rf]) rfl (fun v h=>by simp at h;rcases h with rfl|rfl|rfl|rfl<;>first|assumption|rfl) rfl rfl ?_
 intro w2 hE2 hs2 hB
 try simp only[go_sem]
 refine hK _ _ ?_;clear hK hgd;clear K;try clear gd
 have dN:zal w2 (some ⟨w1.heap.size,0,Option.none⟩) 4=some [hv,rv,vi smallN.rw,vi smallN.rf]:=zah hB rfl
 refine go trivial ?_
 refine rq ?_;intro gd K hgd hK
 try simp only[go_sem]
 refine zbw (z:=vs []) (l:=kX.map vs) rfl rfl rfl rfl rfl rfl (fun v hv=>by simp[kX]at hv;rcases hv with rfl|rfl<;>rfl) (by decide) ?_
 intro w3 hE3 hs3 o3
 try simp only[go_sem]
 refine zbw (z:=vi 0) (l:=[vi 0,vi 0,vi 0]) rfl rfl rfl rfl rfl rfl (zkj [0,0,0]) (by simp) ?_
 intro w4 hE4 hs4 o4
 try simp only[go_sem]
 have kb:∀(a b:Int) (x y:Option Addr) (n m c d:Nat),bdV Tryz.prog 98 [(0,vi a),(1,.slice x n c),(2,vi b),(3,.slice y m d)]=some (.agg #[vi a,.slice x n c,vi b,.slice y m d]):=fun a b x y n m c d=>by kernel_rfl
 refine⟨by kernel_rfl,?_⟩
 rw[kb]
 try simp only[go_sem]
 obtain⟨qv,hqv⟩:∃v,Value.slice (some ⟨w2.heap.size,0,Option.none⟩) 2 2=v:=⟨_,rfl⟩
 obtain⟨pv,hpv⟩:∃v,Value.slice (some ⟨w3.heap.size,0,Option.none⟩) 3 3=v:=⟨_,rfl⟩
 have r3:Row w3 qv (kX.map vs):=by rw[←hqv];exact o3.row
 have r4:Row w4 pv ([(0:Int),0,0].map vi):=by rw[←hpv];exact o4.row
 rw[hqv,hpv]
 refine zaQ (P:=Tryz.prog) (l:=[vi 1,qv,vi 1,pv]) rfl (fun v h=>by simp at h;rcases h with rfl|rfl|rfl|rfl;rfl;exact r3.isOne;rfl;exact r4.isOne) rfl rfl ?_
 intro w5 hE5 hs5 hC
 try simp only[go_sem]
 refine hK _ _ ?_;clear hK hgd;clear K;try clear gd
 have hE25:=hE3.trans (hE4.trans hE5)
 have dN5:=zac hE25 dN
 obtain⟨b2,hb2⟩:∃b,w4.heap.size=b:=⟨_,rfl⟩
 rw[hb2]at hC ⊢
 have dS:zal w5 (some ⟨b2,0,Option.none⟩) 4=some [vi 1,qv,vi 1,pv]:=zah (l:=[vi 1,qv,vi 1,pv]) hC rfl
 have hS5:SeenC w5 [vi 1,qv,vi 1,pv] zjV:=⟨qv,pv,rfl,r3.ext (hE4.trans hE5),r4.ext hE5⟩
 refine go trivial ?_
 refine rc (an2 dN5 dS) (zlm (hE2.trans hE25) hN zc0 hS5 kX_good (by decide)) ?_
 rintro lv w6 ⟨hl6,hE6⟩
 rw[zi1]at hl6
 obtain⟨PL,hPL⟩:∃l,([[97,46,32,120,46,111,46],[98,46,111,46,32,120,46,111,46],[98,46,111,46,32,120,46,111,46],[102,111,117,110,100]]:List Lab).map vs=l:=⟨_,rfl⟩
 rw[hPL]at hl6
 have hPl:PL.length=4:=by rw[←hPL];rfl
 have u0:PL[0]'(by omega)=vs [97,46,32,120,46,111,46]:=by subst hPL;rfl
 have u1:PL[1]'(by omega)=vs [98,46,111,46,32,120,46,111,46]:=by subst hPL;rfl
 have u3:PL[3]'(by omega)=vs [102,111,117,110,100]:=by subst hPL;rfl
 clear hPL
 refine rgo trivial ?_
 refine rq ?_;intro gd K hgd hK
 try simp (disch:=first|omega|assumption|rfl) only[go_sem,zac hE6 dS]
 refine zaQ (P:=Tryz.prog) (l:=[vi 1,qv,vi 1,pv]) rfl (fun v h=>by simp at h;rcases h with rfl|rfl|rfl|rfl;rfl;exact r3.isOne;rfl;exact r4.isOne) rfl rfl ?_
 intro w7 hE7 hs7 hD
 try simp only[go_sem]
 refine hK _ _ ?_;clear hK hgd;clear K;try clear gd
 obtain⟨b4,hb4⟩:∃b,w6.heap.size=b:=⟨_,rfl⟩
 rw[hb4]at hD hs7 ⊢
 refine go trivial ?_
 refine rq ?_;intro gd K hgd hK
 try simp only[go_sem]
 refine zaR (P:=Tryz.prog) (t:=3) (j:=0) (u:=vi 6) (l:=[vi 1,qv,vi 1,pv]) hD (by simp) rfl rfl rfl ?_
 intro w8 hs8 hD8 hk8
 try simp only[go_sem]
 refine hK _ _ ?_;clear hK hgd;clear K;try clear gd
 have hE68:Ext w6 w8:=Keep.to_ext hE7 rfl (fun i hi=>by omega) hk8
 have dT:zal w8 (some ⟨b4,0,Option.none⟩) 4=some [vi 6,qv,vi 1,pv]:=zah (l:=[vi 6,qv,vi 1,pv]) hD8 rfl
 have hE58:=hE6.trans hE68
 have hE28:=hE25.trans hE58
 have dN8:=zac hE28 dN
 have dS8:=zac hE58 dS
 have hS8:=hS5.ext hE58
 have hT8:SeenC w8 [vi 6,qv,vi 1,pv] {zjV with kind:=6}:=⟨qv,pv,rfl,r3.ext ((hE4.trans hE5).trans hE58),r4.ext (hE5.trans hE58)⟩
 have h8:=hl6.ext hE68
 obtain⟨al,cl,rfl,_,hgl⟩:=id h8
 have m0:=hgl 0 (by omega)
 have m1:=hgl 1 (by omega)
 have m3:=hgl 3 (by omega)
 rw[u0]at m0
 rw[u1]at m1
 rw[u3]at m3
 rw[hPl]
 obtain⟨xl,rfl⟩:=Option.isSome_iff_exists.1 (zag m0)
 rw[zaz]at m0
 have hf:=kX_few
 have z0:(0:Int)≤0:=by decide
 have z1:(0:Int)<((4:Nat):Int):=by decide
 have z2:(1:Int)<((4:Nat):Int):=by decide
 have z3:(3:Int)<((4:Nat):Int):=by decide
 have z4:(0:Int)≤1:=by decide
 have z5:(0:Int)≤3:=by decide
 have t1:Int.toNat 1=1:=rfl
 have t3:Int.toNat 3=3:=rfl
 have q4:decide (((4:Nat):Int)=4)=true:=rfl
 have q0:decide (((0:Nat):Int)=0)=true:=rfl
 refine go trivial ?_
 refine rq ?_;intro gd K hgd hK
 have hg3:∀n σ b,zat gd n σ (some (3,b))=zaj (ev n σ (.tmp 17)) b:=(fun n σ b=>by rw[zad,show gd 3=some 17 from(by rw[hgd];rfl)];rfl);have hg9:∀n σ b,zat gd n σ (some (9,b))=zaj (ev n σ (.tmp 23)) b:=(fun n σ b=>by rw[zad,show gd 9=some 23 from(by rw[hgd];rfl)];rfl);have hg14:∀n σ b,zat gd n σ (some (14,b))=zaj (ev n σ (.tmp 28)) b:=(fun n σ b=>by rw[zad,show gd 14=some 28 from(by rw[hgd];rfl)];rfl);have hg20:∀n σ b,zat gd n σ (some (20,b))=zaj (ev n σ (.tmp 34)) b:=(fun n σ b=>by rw[zad,show gd 20=some 34 from(by rw[hgd];rfl)];rfl);have hg26:∀n σ b,zat gd n σ (some (26,b))=zaj (ev n σ (.tmp 40)) b:=(fun n σ b=>by rw[zad,show gd 26=some 40 from(by rw[hgd];rfl)];rfl);have hg32:∀n σ b,zat gd n σ (some (32,b))=zaj (ev n σ (.tmp 46)) b:=(fun n σ b=>by rw[zad,show gd 32=some 46 from(by rw[hgd];rfl)];rfl)
 try simp (disch:=first|omega|assumption|rfl) only[go_sem,dN8,dS8,zbd,↓hg3,↓hg9,↓hg14,↓hg20,↓hg26,↓hg32]
 have hP:=zdb (hE2.trans hE28) hN zc0 hS8 hf (by decide)
 rw[small_r1]at hP
 refine Fn.mono hP ?_
 rintro _ w9 ⟨rfl,hE9⟩
 try simp (disch:=first|omega|assumption|rfl) only[go_sem,zac hE9 dN8,zac hE9 dT,zbd,↓hg3,↓hg9,↓hg14,↓hg20,↓hg26,↓hg32]
 have hP:=zdb ((hE2.trans hE28).trans hE9) hN zc0 (hT8.ext hE9) hf (by decide)
 rw[small_r2]at hP
 refine Fn.mono hP ?_
 rintro _ w10 ⟨rfl,hE10⟩
 have hE80:=hE9.trans hE10
 try simp (disch:=first|omega|assumption|rfl) only[go_sem,zaa hE80 m0,zaa hE80 m1,zaa hE80 m3,z0,z1,z2,z3,z4,z5,t1,t3,q4,Int.toNat_zero,zaz,Nat.zero_mul,zac hE80 dN8,zbd,↓hg3,↓hg9,↓hg14,↓hg20,↓hg26,↓hg32]
 refine⟨by kernel_rfl,?_⟩
 rw[show bdV Tryz.prog 98 []=some (.agg #[vi 0,.slice Option.none 0 0,vi 0,.slice Option.none 0 0]) from by kernel_rfl]
 try simp (disch:=first|omega|assumption|rfl) only[go_sem,zbd,↓hg3,↓hg9,↓hg14,↓hg20,↓hg26,↓hg32]
 have hZ:SeenC w10 [vi 0,.slice Option.none 0 0,vi 0,.slice Option.none 0 0] ⟨0,[],0,[]⟩:=⟨_,_,rfl,⟨Option.none,0,rfl,Nat.le_refl _,fun j h=>by simp at h⟩,⟨Option.none,0,rfl,Nat.le_refl _,fun j h=>by simp at h⟩⟩
 refine Fn.mono (zlm ((hE2.trans hE28).trans hE80) hN zc0 hZ nil_good (by decide)) ?_
 rintro ev w11 ⟨hl11,hE11⟩
 rw[zi2]at hl11
 obtain⟨ae,ce,rfl,_⟩:=hl11
 try simp (disch:=first|omega|assumption|rfl) only[go_sem,q0,List.map_nil,List.length_nil,zbd,↓hg3,↓hg9,↓hg14,↓hg20,↓hg26,↓hg32]
 refine hK _ _ ?_;clear hK hgd;clear K;try clear gd
 refine go trivial ?_
 refine rt0 Tryz.ntmps47 ?_
 exact⟨rfl,hE1.trans (hE2.trans (hE28.trans (hE80.trans hE11)))⟩
theorem row_less{w:World}{ap:Option Addr}{cp:Nat}{p:List Int}(h:Row w (.slice ap p.length cp) (p.map vi))(hne:p≠ []):Row w (.slice ap (p.length - 1) cp) (p.dropLast.map vi):=by
 obtain⟨a,c,e,hc,hg⟩:=h
 rw[List.length_map,Value.slice.injEq]at e
 obtain⟨rfl,_,rfl⟩:=e
 rw[List.length_map]at hc
 refine⟨ap,cp,by rw[List.length_map,List.length_dropLast],by rw[List.length_map,List.length_dropLast];omega,fun j hj=>?_⟩
 rw[List.length_map,List.length_dropLast]at hj
 have g:=hg j (by rw[List.length_map];omega)
 rw[List.getElem_map]at g ⊢
 rw[List.getElem_dropLast]
 exact g
theorem zgo(W:World){cs:List Value}{N:NetL}{qv:Value}{q:Nm}{k:Nat}{o:Int}(hk5:k≤255)(hN:NetAt W cs N)(hv:NumN N)(hq:Row W qv (q.map vs))(_oq:NmOk q):
  Fn Tryz.prog 12 #[.agg cs.toArray,qv,.int .u8 (k:Int),vi o] W (fun v w'=>v= .bool true∧Ext W w'):=by
 have hN0:=hN
 obtain⟨hsv,rv,rfl,hh,hr⟩:=hN.ex
 obtain⟨ah,ch,hhv,_⟩:=hh.open
 obtain⟨ar0,cr0,hrv,_⟩:=id hr
 refine enter Tryz.func12 Tryz.ntmps12 rfl rfl ?_
 repeat refine c_r ?_
 rw[hhv,hrv]
 refine go trivial ?_
 rw[←hhv,←hrv]
 refine zaB ?_
 intro w1 hE1 hs1 hA
 have dN:zal w1 (some ⟨W.heap.size,0,Option.none⟩) 4=some [hsv,rv,vi N.rw,vi N.rf]:=zah hA rfl
 refine rc trivial (zjD w1) ?_
 rintro _ w2 ⟨rfl,hE2⟩
 refine rgo trivial ?_
 have hE12:=hE1.trans hE2
 have dN2:=zac hE2 dN
 refine zaA (Q:=fun e σ' ds' v'=>e= .normal∧ds'=[]∧(σ' 4= .pointer (some ⟨W.heap.size,0,Option.none⟩)∧σ' 1=qv∧σ' 2= .int .u8 (k:Int)∧σ' 3=vi o)∧Ext w2 v'∧∃bb,σ' 33= .bool bb∧(bb=false→zaV N∧zbi q=true)) ?_ ?_
 ·refine rcg [(3,24),(8,29)] dN2 (zjC w2 (hN0.ext hE12) hv) ?_
  rintro _ w4 ⟨hE4,b,rfl,hb⟩
  cases b with
  |false=>
   refine reg [(3,24),(8,29)] trivial ?_
   exact⟨rfl,rfl,sc trivial,hE4,_,vr0,fun h=>by cases h⟩
  |true=>
   refine rdg [(3,24),(8,29)] (zac hE4 dN2) (zhw w4 (hN0.ext (hE12.trans hE4)) hv) ?_
   rintro _ w5 ⟨hE5,b2,rfl,_⟩
   cases b2 with
   |false=>
    refine reg [(3,24),(8,29)] trivial ?_
    exact⟨rfl,rfl,sc trivial,hE4.trans hE5,_,vr0,fun h=>by cases h⟩
   |true=>
    refine rdg [(3,24),(8,29)] trivial (zgr w5 qv q (hq.ext (hE12.trans (hE4.trans hE5)))) ?_
    rintro _ w6 ⟨rfl,hE6⟩
    refine reg [(3,24),(8,29)] trivial ?_
    exact⟨rfl,rfl,sc trivial,hE4.trans (hE5.trans hE6),_,vr0,fun h=>⟨hb rfl,by simpa using h⟩⟩
 rintro _ σ1 _ w4 ⟨rfl,rfl,s,hE4,bb,s24,hbb⟩
 have hE14:=hE12.trans hE4
 cases bb with
 |true=>
  refine go s24 ?_
  refine rt0 Tryz.ntmps12 ?_
  exact⟨rfl,hE14⟩
 |false=>
 obtain⟨hG,hgq⟩:=hbb rfl
 have dN4:=zac hE4 dN2
 refine go s24 ?_
 refine rc trivial (Types_ok w4) ?_
 rintro tv w5 ⟨htv,hE5⟩
 refine rgo s ?_
 obtain⟨at1,ct,rfl,hgt⟩:=zj0 htv
 rw[show typesL.length=9 from rfl]
 obtain⟨j,hj⟩:∃j,k % 9=j:=⟨_,rfl⟩
 have hjl:j<9:=by omega
 have hrem:binV Tryz.prog .rem 3 (.int .i64 (k:Int)) (.int .i64 ((9:Nat):Int))=some (.int .i64 (j:Int)):=by rw[rem_nn (by omega),hj]
 have hj0:(0:Int)≤(j:Int):=by omega
 have hj1:(j:Int)<((9:Nat):Int):=by omega
 obtain⟨xt,rfl,gt⟩:=hgt j hjl
 have hty:typesL[j]'hjl∈typesL:=List.getElem_mem hjl
 obtain⟨t,ht⟩:∃t,typesL[j]'hjl=t:=⟨_,rfl⟩
 rw[ht]at gt hty
 refine rq ?_;intro gd K hgd hK
 try simp (disch:=first|omega|assumption|rfl) only[go_sem,s,hrem,hj0,hj1,gt]
 refine hK _ _ ?_;clear hK hgd;clear K;try clear gd
 refine go trivial ?_
 have hE15:=hE14.trans hE5
 have dN5:=zac hE5 dN4
 refine rc (an2 s dN5) (zia (t:=t) hE15 hN0 hG (hq.ext hE15) hgq) ?_
 rintro _ w6 ⟨hE6,ev,rfl,hv6⟩
 refine rgo s ?_
 have hE16:=hE15.trans hE6
 have dN6:=zac hE6 dN5
 have hq6:=hq.ext hE16
 have hlE:=zkS N q t
 have hEnd:∀e∈zep N q t,EndR N q t e:=fun e he=>by
  obtain⟨h1,h2⟩:=zjl hG hgq (errR_err (List.ne_nil_of_mem he))
  rw[h2]at he
  exact h1.right hgq hty he
 have hfq:few q=true:=by unfold zbi at hgq;exact(Bool.and_eq_true_iff.1 hgq).1
 obtain⟨a,c,rfl,hg⟩:=zkP hv6
 obtain⟨E,hE⟩:∃E,zep N q t=E:=⟨_,rfl⟩
 rw[hE]at hg hEnd hlE
 rw[hE]
 clear hv6
 obtain⟨an,cn,hqe,_⟩:=id hq
 have q1:=hq.isOne
 have kb:∀(x y:Int) (ap:Option Addr) (m d:Nat),bdV Tryz.prog 98 [(0,vi x),(1,qv),(2,vi y),(3,.slice ap m d)]=some (.agg #[vi x,qv,vi y,.slice ap m d]):=fun x y ap m d=>by rw[hqe];kernel_rfl
 refine zaA (Q:=fun e' σ' ds' v'=>e'= .exit 0∧ds'=[]∧Ext w6 v') ?_ ?_
 ·refine zho E.length (fun i σ v=>(σ 14=vi i∧σ 11= .slice a E.length c∧σ 4= .pointer (some ⟨W.heap.size,0,Option.none⟩)∧σ 1=qv∧σ 10=vi t∧σ 3=vi o)∧Ext w6 v) ?_ ?_ ?_
  ·exact⟨⟨vr0,vr0,(vq1 s),(vq1 s),vr0,(vq1 s)⟩,Keep.refl _ _⟩
  ·clear s
   rintro i σ v hi r ⟨s,hEv⟩
   obtain⟨xa,u,u1,ap,cp,rfl,hu,hu0,hu1,g0,g1,hrq,_⟩:=hg i hi
   have hR:=hEnd _ (List.getElem_mem hi)
   obtain⟨e,he⟩:∃e,E[i]=e:=⟨_,rfl⟩
   rw[he]at hR g0 g1 hrq
   obtain⟨kd,p⟩:=e
   dsimp only at hR g0 g1 hrq
   have hne:=hR.ne
   have hl4:=hR.len
   dsimp only at hne hl4
   have hcp:p.length≤cp:=by
    obtain⟨_,_,e,hc,_⟩:=hrq
    rw[Value.slice.injEq]at e
    obtain⟨_,_,rfl⟩:=e
    simpa using hc
   have hpos:=List.length_pos_iff.2 hne
   have hp0:decide (((p.length:Nat):Int)=0)=false:=decide_eq_false (by omega)
   have e0:=zaa hEv g0
   have e1:=zaa hEv g1
   obtain⟨pv,hpv⟩:∃v,Value.slice ap p.length cp=v:=⟨_,rfl⟩
   have hpr:Row v pv (p.map vi):=by rw[←hpv];exact hrq.ext hEv
   have p1:=hpr.isOne
   have hone:∀(x y:Int) (z:Value),one z=true→∀q∈ [vi x,qv,vi y,z],one q=true:=fun x y z hz q hq=>by
    simp at hq
    rcases hq with rfl|rfl|rfl|rfl
    ·rfl
    ·exact q1
    ·rfl
    ·exact hz
   refine go (an2 s r) ?_
   refine go (an6 s r hu hu1 e1 hp0) ?_
   refine zaA (Q:=fun e' σ' ds' v'=>e'= .normal∧ds'=[]∧(σ' 14=vi i∧σ' 11= .slice (some xa) E.length c∧σ' 4= .pointer (some ⟨W.heap.size,0,Option.none⟩)∧σ' 1=qv∧σ' 10=vi t∧σ' 3=vi o)∧Ext v v'∧∃b,v.heap.size≤b∧σ' 15= .pointer (some ⟨b,0,Option.none⟩)∧v'.heap[b]? =some (.cells [vi kd,qv,vi t,pv].toArray 98 (0,0))) ?_ ?_
   ·refine zaH (fun i=>i==14) [(0,true),(1,true),(2,true),(3,true),(4,true),(5,true),(6,true),(7,true),(8,true),(9,true),(10,true),(11,true),(12,true),(13,false),(14,false)] NoS mixed (by kernel_rfl) ?_;intro gd K x hgd hx hxe hK;clear hxe
    simp (disch:=first|omega|assumption|rfl) only[go_sem,s,r,hu,hu0,hu1,zaa hx e0,zaa hx e1]
    refine⟨by kernel_rfl,?_⟩
    rw[kb,hpv]
    simp (disch:=first|omega|assumption|rfl) only[go_sem]
    refine⟨.inr (Ext.alloc x _),?_⟩
    try simp only[go_sem]
    refine zaQ (P:=Tryz.prog) (l:=[vi kd,qv,vi t,pv]) rfl (hone _ _ _ p1) rfl rfl ?_
    intro y hy hsy hB
    refine⟨.inl rfl,?_⟩
    simp (disch:=first|omega|assumption|rfl) only[go_sem]
    refine hK _ _ ?_;clear hK hgd;clear K;try clear gd
    exact⟨rfl,rfl,sc s,hx.trans hy,_,hx.size,vr0,hB⟩
   clear s
   rintro _ σ1 _ v1 ⟨rfl,rfl,s,hv1,b5,hb5,s15,hB5⟩
   have hEv1:=hEv.trans hv1
   have d15:zal v1 (some ⟨b5,0,Option.none⟩) 4=some [vi kd,qv,vi t,pv]:=zah (l:=[vi kd,qv,vi t,pv]) hB5 rfl
   have f3:zae v1 (some ⟨b5,3,Option.none⟩)=some pv:=zab (i:=3) hB5 rfl
   have f0:zae v1 (some ⟨b5,0,Option.none⟩)=some (vi kd):=zab (i:=0) hB5 rfl
   have hpr1:=hpr.ext hv1
   -- one choice more
   refine go s ?_
   refine rq ?_;intro gd K hgd hK
   try simp (disch:=first|omega|assumption|rfl) only[go_sem,s15,d15]
   refine zaQ (P:=Tryz.prog) (l:=[vi kd,qv,vi t,pv]) rfl (hone _ _ _ p1) rfl rfl ?_
   intro v2 hv2 hs2 hB16
   try simp only[go_sem]
   refine hK _ _ ?_;clear hK hgd;clear K;try clear gd
   refine go trivial ?_
   refine rq ?_;intro gd K hgd hK
   try simp only[go_sem]
   refine ziJ (z:=vi 0) rfl rfl rfl rfl ?_
   intro v3 hv3 hs3 ho3
   try simp (disch:=first|omega|assumption|rfl) only[go_sem,s15,zaa (hv2.trans hv3) f3]
   refine zch (B:=v2.heap.size) ho3 (hpr1.ext (hv2.trans hv3)) rfl rfl rfl rfl rfl rfl (vr0) (vr0) (fun q hq=>by obtain⟨x,_,rfl⟩:=List.mem_map.1 hq;rfl) (by simp;omega) (by decide) (by omega) ?_
   intro m4 v4 ho4 hx4 hk4 hb4
   try simp only[go_sem]
   refine zcD (z:=vi 0) rfl rfl rfl rfl rfl ?_
   intro v5 hv5 hs5 ho5
   try simp only[go_sem]
   have hE24:=hx4 v2 hv3 (Nat.le_refl _)
   have hE25:=hE24.trans hv5
   refine zch (B:=v2.heap.size) (ho4.ext hv5) ho5.row rfl rfl rfl rfl rfl rfl (vr0) (vr0) (fun q hq=>by rw[List.mem_singleton.1 hq];rfl) (by simp;omega) (by decide) hE25.size ?_
   intro m6 v6 ho6 hx6 hk6 hb6
   have hE26:=hx6 v2 hE25 (Nat.le_refl _)
   have hB166:=Ext.at hE26 hB16
   try simp only[go_sem]
   refine zaR (P:=Tryz.prog) (t:=23) (j:=3) (u:=m6) (l:=[vi kd,qv,vi t,pv]) hB166 (by simp) ho6.row.isOne rfl rfl ?_
   intro v7 hs7 hB7 hk7
   try simp only[go_sem]
   refine hK _ _ ?_;clear hK hgd;clear K;try clear gd
   obtain⟨b6,hb6⟩:∃b,v1.heap.size=b:=⟨_,rfl⟩
   rw[hb6]at hB16 hB7 hk7 hs2 ⊢
   have z26:=hE26.size
   have hE17v:Ext v1 v7:=Keep.to_ext (hv2.trans hE26) rfl (fun i hi=>by omega) hk7
   have hm7:Row v7 m6 ((p++ [0]).map vi):=by
    have:=(ho6.keep hk7 fun i hi h=>by have:=(ho6.ge hi).1;omega).row
    simpa using this
   have d16:zal v7 (some ⟨b6,0,Option.none⟩) 4=some [vi kd,qv,vi t,m6]:=zah (l:=[vi kd,qv,vi t,m6]) hB7 rfl
   -- one choice less
   refine go trivial ?_
   refine rq ?_;intro gd K hgd hK
   try simp (disch:=first|omega|assumption|rfl) only[go_sem,s15,zac hE17v d15]
   refine zaQ (P:=Tryz.prog) (l:=[vi kd,qv,vi t,pv]) rfl (hone _ _ _ p1) rfl rfl ?_
   intro v8 hv8 hs8 hB8
   try simp only[go_sem]
   refine hK _ _ ?_;clear hK hgd;clear K;try clear gd
   obtain⟨b7,hb7⟩:∃b,v7.heap.size=b:=⟨_,rfl⟩
   rw[hb7]at hB8 hs8 ⊢
   have hE18v:=hE17v.trans hv8
   have f38:=zaa hE18v f3
   rw[←hpv]at f38
   have hsub:((p.length:Nat):Int) - 1=((p.length - 1:Nat):Int):=by omega
   have h01:(0:Int)≤((p.length - 1:Nat):Int):=by omega
   have h11:((p.length - 1:Nat):Int)≤(cp:Int):=by omega
   refine go trivial ?_
   refine rq ?_;intro gd K hgd hK
   try simp (disch:=first|omega|assumption|rfl) only[go_sem,s15,f38,hsub,h01,h11,Nat.sub_zero,Nat.zero_mul,zaz,ite_self]
   refine zaR (P:=Tryz.prog) (t:=23) (j:=3) (u:= .slice ap (p.length - 1) cp) (l:=[vi kd,qv,vi t,pv]) hB8 (by simp) rfl rfl rfl ?_
   intro v9 hs9 hB9 hk9
   try simp only[go_sem]
   refine hK _ _ ?_;clear hK hgd;clear K;try clear gd
   have hE79:Ext v7 v9:=Keep.to_ext hv8 rfl (fun i hi=>by omega) hk9
   have hE19v:=hE17v.trans hE79
   have d17:zal v9 (some ⟨b7,0,Option.none⟩) 4=some [vi kd,qv,vi t,.slice ap (p.length - 1) cp]:=zah (l:=[vi kd,qv,vi t,.slice ap (p.length - 1) cp]) hB9 rfl
   -- another kind
   refine go trivial ?_
   refine rq ?_;intro gd K hgd hK
   try simp (disch:=first|omega|assumption|rfl) only[go_sem,s15,zac hE19v d15]
   refine zaQ (P:=Tryz.prog) (l:=[vi kd,qv,vi t,pv]) rfl (hone _ _ _ p1) rfl rfl ?_
   intro v10 hv10 hs10 hB10
   try simp only[go_sem]
   refine hK _ _ ?_;clear hK hgd;clear K;try clear gd
   obtain⟨b8,hb8⟩:∃b,v9.heap.size=b:=⟨_,rfl⟩
   rw[hb8]at hB10 hs10 ⊢
   refine go trivial ?_
   refine rq ?_;intro gd K hgd hK
   try simp (disch:=first|omega|assumption|rfl) only[go_sem,s]
   refine zaR (P:=Tryz.prog) (t:=3) (j:=0) (u:=vi o) (l:=[vi kd,qv,vi t,pv]) hB10 (by simp) rfl rfl rfl ?_
   intro v11 hs11 hB11 hk11
   try simp only[go_sem]
   refine hK _ _ ?_;clear hK hgd;clear K;try clear gd
   have hE911:Ext v9 v11:=Keep.to_ext hv10 rfl (fun i hi=>by omega) hk11
   have hE711:=hE79.trans hE911
   have hE111:=hE17v.trans hE711
   have d18:zal v11 (some ⟨b8,0,Option.none⟩) 4=some [vi o,qv,vi t,pv]:=zah (l:=[vi o,qv,vi t,pv]) hB11 rfl
   have d15':=zac hE111 d15
   have d16':=zac hE711 d16
   have d17':=zac hE911 d17
   have f0':=zaa hE111 f0
   have hEW:Ext W v11:=hE16.trans (hEv1.trans hE111)
   have dNv:=zac (hEv1.trans hE111) dN6
   have hqv:=hq.ext hEW
   have hpr':=hpr1.ext hE111
   have hless:Row v11 (.slice ap (p.length - 1) cp) (p.dropLast.map vi):=row_less (by rw[hpv];exact hpr') hne
   have c1:SeenC v11 [vi kd,qv,vi t,pv] ⟨kd,q,t,p⟩:=⟨_,_,rfl,hqv,hpr'⟩
   have c2:SeenC v11 [vi kd,qv,vi t,m6] ⟨kd,q,t,p++ [0]⟩:=⟨_,_,rfl,hqv,hm7.ext hE711⟩
   have c3:SeenC v11 [vi kd,qv,vi t,.slice ap (p.length - 1) cp] ⟨kd,q,t,p.dropLast⟩:=⟨_,_,rfl,hqv,hless⟩
   have c4:SeenC v11 [vi o,qv,vi t,pv] ⟨o,q,t,p⟩:=⟨_,_,rfl,hqv,hpr'⟩
   obtain⟨t5,ht5⟩:∃x,decide (o=kd)=x:=⟨_,rfl⟩
   have r1:=hR.ok
   have r2:=hR.more
   have r3:=hR.less
   have r4:=hR.wrong o
   dsimp only at r1 r2 r3 r4
   rw[ht5]at r4
   have bt:(t5==t5)=true:=by cases t5<;>rfl
   refine go trivial ?_
   refine zaA (Q:=fun e' σ' ds' v'=>e'= .normal∧ds'=[]∧(σ' 14=vi i∧σ' 11= .slice (some xa) E.length c∧σ' 4= .pointer (some ⟨W.heap.size,0,Option.none⟩)∧σ' 1=qv∧σ' 10=vi t∧σ' 3=vi o)∧Ext v11 v'∧σ' 120= .bool false) ?_ ?_
   ·refine zaH (fun _=>false) [(0,true),(1,true),(2,false),(3,true),(4,true),(5,true),(6,true),(7,false),(8,true),(9,true),(10,true),(11,true),(12,false),(13,true),(14,true),(15,true),(16,true),(18,true),(19,true),(20,true),(21,true),(17,false),(22,true),(23,true)] NoS mixed (by kernel_rfl) ?_;intro gd K x hgd hx hxe hK;clear hxe
    have hg4:∀n σ b,zat gd n σ (some (4,b))=zaj (ev n σ (.tmp 101)) b:=(fun n σ b=>by rw[zad,show gd 4=some 101 from(by rw[hgd];rfl)];rfl);have hg9:∀n σ b,zat gd n σ (some (9,b))=zaj (ev n σ (.tmp 106)) b:=(fun n σ b=>by rw[zad,show gd 9=some 106 from(by rw[hgd];rfl)];rfl);have hg14:∀n σ b,zat gd n σ (some (14,b))=zaj (ev n σ (.tmp 111)) b:=(fun n σ b=>by rw[zad,show gd 14=some 111 from(by rw[hgd];rfl)];rfl)
    simp (disch:=first|omega|assumption|rfl) only[go_sem,s,s15,zac hx dNv,zac hx d15',zbd,↓hg4,↓hg9,↓hg14]
    have hP:=zdb (hEW.trans hx) hN0 hG (c1.ext hx) hfq (by show p.length≤_;omega)
    rw[r1]at hP
    refine Fn.mono hP ?_
    rintro _ y ⟨rfl,hy⟩
    refine⟨.inr hy,?_⟩
    have hxy:=hx.trans hy
    simp (disch:=first|omega|assumption|rfl) only[go_sem,s,s15,zac hxy dNv,zac hxy d16',zbd,↓hg4,↓hg9,↓hg14]
    have hP:=zdb (hEW.trans hxy) hN0 hG (c2.ext hxy) hfq (by show(p++ [0]).length≤_;rw[List.length_append,List.length_singleton];omega)
    rw[r2]at hP
    refine Fn.mono hP ?_
    rintro _ y2 ⟨rfl,hy2⟩
    refine⟨.inr hy2,?_⟩
    have hxy2:=hxy.trans hy2
    simp (disch:=first|omega|assumption|rfl) only[go_sem,s,s15,zac hxy2 dNv,zac hxy2 d17',zbd,↓hg4,↓hg9,↓hg14]
    have hP:=zdb (hEW.trans hxy2) hN0 hG (c3.ext hxy2) hfq (by show p.dropLast.length≤_;rw[List.length_dropLast];omega)
    rw[r3]at hP
    refine Fn.mono hP ?_
    rintro _ y3 ⟨rfl,hy3⟩
    refine⟨.inr hy3,?_⟩
    have hxy3:=hxy2.trans hy3
    simp (disch:=first|omega|assumption|rfl) only[go_sem,s,s15,zac hxy3 dNv,zac hxy3 d18,zaa hxy3 f0',Nat.add_zero,zbd,↓hg4,↓hg9,↓hg14]
    have hP:=zdb (hEW.trans hxy3) hN0 hG (c4.ext hxy3) hfq (by show p.length≤_;omega)
    rw[r4]at hP
    refine Fn.mono hP ?_
    rintro _ y4 ⟨rfl,hy4⟩
    refine⟨.inr hy4,?_⟩
    have hxy4:=hxy3.trans hy4
    simp (disch:=first|omega|assumption|rfl) only[go_sem,s,s15,zaa hxy4 f0',ht5,bt,Nat.add_zero,zbd,↓hg4,↓hg9,↓hg14]
    refine hK _ _ ?_;clear hK hgd;clear K;try clear gd
    exact⟨rfl,rfl,sc s,hxy4,vr0⟩
   clear s
   rintro _ σ2 _ v12 ⟨rfl,rfl,s,hv12,s120⟩
   refine go (an3 s r s120) ?_
   exact⟨rfl,sc (an2 s r),hEv1.trans (hE111.trans hv12)⟩
  ·clear s
   rintro σ v r ⟨s,hEv⟩
   refine go (an2 s r) ?_
   exact⟨rfl,rfl,hEv⟩
 clear s
 rintro _ σ2 _ w7 ⟨rfl,rfl,hE7⟩
 refine go trivial ?_
 refine rt0 Tryz.ntmps12 ?_
 exact⟨rfl,hE16.trans hE7⟩
end Go.Proofs.YtahbdamijngmmaaGreat
namespace Go.Proofs.YtahbdamijngmmaaGreat.replayEnds
open Go Go.Proofs.YtahbdamijngmmaaGreat
theorem j1:(Rows.replayEndsRow.inPlace==Tryz.pinned.checked.prog.inPlace 12)=true:=by kernel_rfl
theorem j2:(Rows.replayEndsRow.unfollowed==Tryz.pinned.checked.prog.unfollowed 12)=true:=by kernel_rfl
theorem j3:(Rows.replayEndsRow.recurses==Tryz.pinned.checked.prog.recurses 12)=true:=by kernel_rfl
theorem j4:(Rows.replayEndsRow.named==Tryz.pinned.checked.prog.varsNamed 12)=true:=by kernel_rfl
theorem j5:(Tryz.pinned.checked.prog.mayEnter)=true:=by kernel_rfl
theorem j6:(Rows.replayEndsRow.lifted==Tryz.pinned.checked.prog.liftsFinal)=true:=by kernel_rfl
theorem joined:joinedFacts Tryz.pinned.checked.prog 12 Tryz.f12 Rows.replayEndsSpec Rows.replayEndsRow=true:=by
 unfold joinedFacts
 rw[j1,j2,j3,j4,j5,j6]
 kernel_rfl
end Go.Proofs.YtahbdamijngmmaaGreat.replayEnds
namespace Go.Proofs.YtahbdamijngmmaaGreat
open Go
set_option maxRecDepth 100000
theorem zjY{w:World}{α:Type}{k:Nat}{C:List Value→α→Prop}{Q:α→Prop}{v:Value}{L:List (List Value)}(hL:RowK k w v L)(h:∀cs∈L,∃a,C cs a∧Q a):∃R:List α,Rows k C w v R∧∀a∈R,Q a:=by
 have:∀L:List (List Value),(∀cs∈L,∃a,C cs a∧Q a)→∃R:List α,L.length=R.length∧(∀i (h:i<L.length) (h':i<R.length),C L[i] R[i])∧∀a∈R,Q a:=fun L=>by
  induction L with
  |nil=>intro _;exact⟨[],rfl,fun i h=>by simp at h,fun r h=>by cases h⟩
  |cons cs L ih=>
   intro h
   obtain⟨r,h1,h2⟩:=h cs (List.mem_cons_self ..)
   obtain⟨R,a1,a2,a3⟩:=ih (fun x hx=>h x (List.mem_cons_of_mem _ hx))
   refine⟨r::R,by simp[a1],fun i a b=>?_,fun x hx=>?_⟩
   ·cases i with
    |zero=>exact h1
    |succ i=>exact a2 i (by simpa using a) (by simpa using b)
   ·rcases List.mem_cons.1 hx with rfl|hx
    ·exact h2
    ·exact a3 x hx
 obtain⟨R,a1,a2,a3⟩:=this L h
 exact⟨R,⟨L,hL,a1,a2⟩,a3⟩
section
variable {H : Type} {enc : TypeId × Value → H} {w : World} {base : Nat} {sp : Nat → Bool} {held : Bool}
theorem zf0{P:Program}{t:TypeId}{n:Nat}{c:Value}{x:DataW H×List MemPlace}(ht:P.underlying t=some (.int .u8))(h:DataW.trod enc P w base sp held n t [c]=some x):∃b:UInt8,c=zaf b:=by
 obtain⟨m,h1,_,h2⟩:=DataW.trod_int ht h
 have hb:=wf_u8 h2
 obtain⟨k,rfl⟩:∃k:Nat,m=(k:Int):=⟨m.toNat,by omega⟩
 exact⟨UInt8.ofNat k,by rw[List.head_eq_of_cons_eq h1,zdQ (by omega)]⟩
theorem rd_addr{t e:TypeId}{c0 c1 c2 c3:Value}{P:Program}(h:RdC enc P w base sp held t [c0,c1,c2,c3])(ht:P.underlying t=some (.array 4 e))(hc:P.cellsOf e=1)(he:P.underlying e=some (.int .u8)):
  ∃a b c d:UInt8,c0=zaf a∧c1=zaf b∧c2=zaf c∧c3=zaf d:=by
 obtain⟨n,x,h,_⟩:=h
 obtain⟨_,_,_,_,_,_,h0,h1,h2,h3⟩:=Go.ChangeShapes.trod_array4 ht hc h
 obtain⟨a,ha⟩:=zf0 he h0
 obtain⟨b,hb⟩:=zf0 he h1
 obtain⟨c,hc⟩:=zf0 he h2
 obtain⟨d,hd⟩:=zf0 he h3
 exact⟨a,b,c,d,ha,hb,hc,hd⟩
theorem rd_zone{cs:List Value}(h:RdC enc Tryz.prog w base sp held 122 cs):∃z:zb5,ZoneC w cs z∧NumR z.recs:=by
 obtain⟨hl,hf⟩:=zdD h rfl
 have hl2:cs.length=2:=hl
 match cs,hl2 with
 | [c0,c1],_=>
  obtain⟨o,n0,_⟩:=zd0 (P:=Tryz.prog) (RdC.one (hf 0 _ rfl)) (e:=9) rfl rfl rfl rfl
  obtain⟨R,h1,h2⟩:=rd_recs (RdC.one (hf 1 _ rfl))
  exact⟨⟨o,R⟩,⟨c0,c1,rfl,n0,h1⟩,h2⟩
theorem rd_host{cs:List Value}(h:RdC enc Tryz.prog w base sp held 116 cs):∃z:zdV,HostC w cs z∧∀x∈z.zones,NumR x.recs:=by
 obtain⟨hl,hf⟩:=zdD h rfl
 have hl6:cs.length=6:=hl
 match cs,hl6 with
 | [c0,c1,c2,c3,c4,c5],_=>
  obtain⟨o,n0,_⟩:=zd0 (P:=Tryz.prog) (RdC.one (hf 0 _ rfl)) (e:=9) rfl rfl rfl rfl
  have h1:RdC enc Tryz.prog w base sp held 113 [c1,c2,c3,c4]:=hf 1 _ rfl
  obtain⟨a,b,c,d,rfl,rfl,rfl,rfl⟩:=rd_addr h1 rfl rfl (e:=5) rfl
  have h5:RdC enc Tryz.prog w base sp held 114 [c5]:=hf 2 _ rfl
  obtain⟨L,hL,hall,_⟩:=zeQ (RdC.one h5) (e:=122) (k:=2) rfl rfl
  obtain⟨R,r1,r2⟩:=zjY hL (fun cs hcs=>rd_zone (hall cs hcs))
  exact⟨⟨o,[a,b,c,d],R⟩,⟨c0,a,b,c,d,c5,rfl,rfl,n0,r1⟩,r2⟩
theorem rd_net{cs:List Value}(h:RdC enc Tryz.prog w base sp held 25 cs):∃N:NetL,NetAt w cs N∧NumN N:=by
 obtain⟨hl,hf⟩:=zdD h rfl
 have hl4:cs.length=4:=hl
 match cs,hl4 with
 | [c0,c1,c2,c3],_=>
  obtain⟨L,hL,hall,_⟩:=zeQ (RdC.one (hf 0 _ rfl)) (e:=116) (k:=6) rfl rfl
  obtain⟨R,r1,r2⟩:=zjY hL (fun cs hcs=>rd_host (hall cs hcs))
  obtain⟨roots,n2,_⟩:=zhK (RdC.one (hf 1 _ rfl)) (e:=3) (k:= .i64) rfl rfl rfl
  obtain⟨a,e2,_⟩:=zgE (hf 2 _ rfl) (k:= .i64) rfl
  obtain⟨b,e3,_⟩:=zgE (hf 3 _ rfl) (k:= .i64) rfl
  have e2':c2=vi a:=List.head_eq_of_cons_eq (show [c2]=[vi a] from e2)
  have e3':c3=vi b:=List.head_eq_of_cons_eq (show [c3]=[vi b] from e3)
  exact⟨⟨R,roots,a,b⟩,⟨c0,c1,by rw[e2',e3'],r1,n2⟩,r2⟩
end
theorem zhJ{H:Type}{enc:TypeId×Value→H}{P:Program}{w:World}{base:Nat}{sp:Nat→Bool}{held:Bool}{t:TypeId}{cs:Array Value}{d:DataW H}{p:List MemPlace}{ts:List TypeId}{ds:List (DataW H)}(h:DataW.Trod enc P w base sp held t (.agg cs) d p)
  (hw:∀x∈DataW.weightsEach P ts ds,x≤reachBytes) {j:Nat} (ht:ts[j]? =some t) (hd:ds[j]? =some d):RdC enc P w base sp held t cs.toList:=by
 obtain⟨n,h⟩:=h
 exact⟨n,_,h,fun k hk=>hw k (DataW.weights_mem_each ht hd k hk)⟩
end Go.Proofs.YtahbdamijngmmaaGreat
namespace Go.Proofs.YtahbdamijngmmaaGreat.replayEnds
open Go Go.Proofs.YtahbdamijngmmaaGreat Go.ChangeShapes Go.WideShapes Go.ChangeAt Go.RowKit
theorem own:ownKnob Tryz.prog.godebug=none:=by kernel_rfl
set_option maxRecDepth 100000 in
theorem lifted(os:Os)(started:os.Started)(H:Type)(enc:TypeId×Value→H):
  ReturnsInHanded {} Tryz.checked os 12 .any (Rows.replayEndsSpec.pre6 enc Tryz.prog Tryz.f12 Rows.replayEndsRow.domain false) (Rows.replayEndsSpec.post enc Tryz.prog Tryz.f12 false true false false):=by
 refine law_lift (C:=Tryz.checked) own started (by kernel_rfl) Tryz.func12
  (ChangeSpec.witness6 (enc:=enc) (C:=Tryz.checked) false ⟨#[],#[.agg #[.slice Option.none 0 0,.slice Option.none 0 0,.int .i64 0,.int .i64 0],.slice Option.none 0 0,.int .u8 0,.int .i64 0],[]⟩ 8 (by kernel_rfl) (by kernel_rfl) (by kernel_rfl) (by kernel_rfl)) rfl ?_ (tb:=4) rfl rfl (by kernel_rfl) (by kernel_rfl) ?_
 ·intro ds hds
  match ds,hds with
  | [d0,d1,d2,d3],_=>rfl
 ·intro W base args ds p hval hA0 hw0
  have hA:DataW.TrodAll enc Tryz.prog W 0 (fun _=>true) true [25,27,5,3] args ds p:=hA0
  have hw:∀x∈DataW.weightsEach Tryz.prog [25,27,5,3] ds,x≤reachBytes:=hw0
  obtain⟨v0,vs0,d0,ds0,p0,q0,rfl,rfl,rfl,h0,r0⟩:=trodAll_cons hA
  obtain⟨v1,vs1,d1,ds1,p1,q1,rfl,rfl,rfl,h1,r1⟩:=trodAll_cons r0
  obtain⟨v2,vs2,d2,ds2,p2,q2,rfl,rfl,rfl,h2,r2⟩:=trodAll_cons r1
  obtain⟨v3,vs3,d3,ds3,p3,q3,rfl,rfl,rfl,h3,r3⟩:=trodAll_cons r2
  obtain⟨rfl,rfl,rfl⟩:=trodAll_nil r3
  obtain⟨a0,rfl,_⟩:=okWide_struct rfl (hval 0 _ _ rfl rfl)
  obtain⟨x0,f0,g0⟩:=rd_net (zhJ h0 hw (j:=0) rfl rfl)
  obtain⟨a1,n1,c1,rfl⟩:=okWide_slice (e:=9) rfl (hval 1 _ _ rfl rfl)
  obtain⟨x1,f1,g1⟩:=zd0 (P:=Tryz.prog) (zi4 h1 rfl hw (j:=1) rfl rfl) (e:=9) rfl rfl rfl rfl
  obtain⟨x2,rfl,_,_,f2⟩:=open_int (k:= .u8) rfl (hval 2 _ _ rfl rfl) h2
  obtain⟨b2,c2⟩:=bounds_u8 f2
  obtain⟨t2,rfl⟩:∃t:Nat,x2=(t:Int):=⟨x2.toNat,by omega⟩
  replace f2:t2≤255:=by omega
  obtain⟨x3,rfl,_,_,f3⟩:=open_int (k:= .i64) rfl (hval 3 _ _ rfl rfl) h3
  exact zgo W f2 f0 g0 f1 g1
theorem over:Rows.replayEndsRow.holds Tryz.pinned (OpenSpec.ofChange Rows.replayEndsSpec):=
 OpenClaim.holds_of_wide 12 Tryz.f12 rfl rfl rfl rfl rfl rfl rfl ⟨rfl,rfl,rfl,rfl,rfl⟩ rfl rfl rfl rfl rfl (by kernel_rfl) Tryz.func12 joined
  (of_decide_eq_true (by kernel_rfl)) (by unfold Func.isWrapper;first| (rw[if_pos (by decide+kernel)];kernel_rfl)| (rw[if_neg (by decide+kernel)];exact⟨rfl,rfl⟩))
  (fun os started H enc _=>lifted os started H enc)
theorem proved:Rows.ReplayEndsSaid:=over
end Go.Proofs.YtahbdamijngmmaaGreat.replayEnds
