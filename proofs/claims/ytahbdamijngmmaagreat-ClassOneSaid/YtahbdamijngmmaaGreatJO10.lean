/-
  Texts of a proof, joined: A4, A5, A6, A7, TQ, I0, K30, K31, KC, KN, K32.
  Conditions: none.
-/
import Derived.Test.YtahbdamijngmmaaGreatJO08
import Derived.Test.YtahbdamijngmmaaGreatJO05
import Derived.Test.YtahbdamijngmmaaGreatJO09
import Derived.Test.YtahbdamijngmmaaGreatJO03
import Derived.Test.YtahbdamijngmmaaGreatJO07
import Derived.Test.YtahbdamijngmmaaGreatJO06
import Derived.Laws.RangeAny
import Derived.Laws.Cover4
import Derived.Laws.Runes
import Derived.Test.YtahbdamijngmmaaGreatJO01
import Derived.ProofKit
import Derived.OpenShut
import Derived.SizedLaws
import Derived.Deep.Slices
import Derived.Test.YtahbdamijngmmaaGreatJO04
set_option linter.unusedVariables false
set_option linter.unusedSimpArgs false
set_option linter.defProp false
set_option linter.unnecessarySimpa false
set_option maxHeartbeats 8000000
namespace Go.Proofs.YtahbdamijngmmaaGreat
open Go
set_option maxRecDepth 10000
abbrev zaI:=Nm×Nm
structure PairAt(S:Nat→Prop)(w:World)(cs:List Value)(p:zaI):Prop where
 ex:∃a b,cs=[a,b]∧RowZ 0 S w a (p.1.map vs)∧RowZ 0 S w b (p.2.map vs)
theorem PairAt.ext{S:Nat→Prop}{w x:World}{cs:List Value}{p:zaI}(h:PairAt S w cs p)(hE:Ext w x):PairAt S x cs p:=by
 obtain⟨a,b,e,h1,h2⟩:=h.ex
 exact⟨a,b,e,h1.ext hE,h2.ext hE⟩
theorem PairAt.turn{S S':Nat→Prop}{w x:World}{cs:List Value}{p:zaI}(h:PairAt S w cs p)(hk:Keep S w x)(hS:∀b,S' b→S b∨w.heap.size≤b):PairAt S' x cs p:=by
 obtain⟨a,b,e,h1,h2⟩:=h.ex
 exact⟨a,b,e,h1.turn hk hS,h2.turn hk hS⟩
theorem PairAt.len{S:Nat→Prop}{w:World}{cs:List Value}{p:zaI}(h:PairAt S w cs p):cs.length=2:=by
 obtain⟨a,b,rfl,_⟩:=h.ex
 rfl
theorem PairAt.ones{S:Nat→Prop}{w:World}{cs:List Value}{p:zaI}(h:PairAt S w cs p):∀q∈cs,one q=true:=by
 obtain⟨a,b,rfl,h1,h2⟩:=h.ex
 intro q hq
 simp at hq
 rcases hq with rfl|rfl
 ·exact h1.one
 ·exact h2.one
structure zbn(p:zaI):Prop where
 a:NmK p.1
 b:NmK p.2
def zaT(a b:zaI):Int:=orI [zci a.1 b.1,zci a.2 b.2]
theorem cpr_Pr:Cpr zaT:=by
 have h:=(cpr_F2.map (Prod.fst:zaI→Nm)).or ((cpr_F2.map (Prod.snd:zaI→Nm)).or Cpr.const)
 exact h
def fstP(a _:zaI):zaI:=a
theorem zjY:Join zaT fstP:=⟨fun _ _ _ _=>rfl⟩
def renF(l:List zaI):List zaI:=zcb zaT fstP (fun r=>r) l []
theorem zem{S:Nat→Prop}(w:World)(ca cb:List Value)(a b:zaI)(ha:PairAt S w ca a)(hb:PairAt S w cb b)(oa:zbn a)(ob:zbn b):
  Fn Tryz.prog 131 #[.agg ca.toArray,.agg cb.toArray] w (fun v w'=>v=vi (zaT a b)∧Ext w w'):=by
 obtain⟨a1,a2,rfl,h1,h2⟩:=ha.ex
 obtain⟨b1,b2,rfl,h3,h4⟩:=hb.ex
 have la:=oa.a.len
 have lb:=oa.b.len
 have lc:=ob.a.len
 have ld:=ob.b.len
 obtain⟨x1,c1,e1,_⟩:=id h1.1
 obtain⟨x2,c2,e2,_⟩:=id h2.1
 obtain⟨x3,c3,e3,_⟩:=id h3.1
 obtain⟨x4,c4,e4,_⟩:=id h4.1
 refine enter Tryz.func131 Tryz.ntmps131 rfl rfl ?_
 repeat refine c_r ?_
 rw[e1,e2,e3,e4]
 refine rg0 ?_
 rw[←e1,←e2,←e3,←e4]
 repeat refine c_r ?_
 rw[zap]
 refine zbP ?_
 intro w1 hE1 hs1 hA hB
 have p0:zah w1 (some ⟨w.heap.size,0,Option.none⟩)=some a1:=zac hA rfl
 have p1:zah w1 (some ⟨w.heap.size,1,Option.none⟩)=some a2:=zac hA rfl
 have q0:zah w1 (some ⟨w.heap.size+1,0,Option.none⟩)=some b1:=zac hB rfl
 have q1:zah w1 (some ⟨w.heap.size+1,1,Option.none⟩)=some b2:=zac hB rfl
 refine zaL (fun _=>false) [(0,true),(1,true),(2,true),(3,true),(5,true),(6,true),(7,true),(8,true),(4,false),(9,false),(10,false),(11,false),(12,true)] NoS mixed (by kernel_rfl) ?_;intro gd K x hgd hx hxe hK;clear hxe
 have hE1x:=hE1.trans hx
 have p0x:=zaa hx p0
 have p1x:=zaa hx p1
 have q0x:=zaa hx q0
 have q1x:=zaa hx q1
 have t1:(1:Int).toNat=1:=rfl
 simp (disch:=first|omega|assumption|rfl) only[go_sem,p0x,p1x,q0x,q1x,Nat.add_zero,Nat.zero_add,Int.toNat_zero,t1]
 refine Fn.mono (zcL x _ _ _ _ (h1.1.ext hE1x) (h3.1.ext hE1x) oa.a.LB ob.a.LB (by omega) (by omega)) ?_
 rintro _ y1 ⟨rfl,hy1⟩
 refine⟨.inr hy1,?_⟩
 have p1y:=zaa hy1 p1x
 have q1y:=zaa hy1 q1x
 simp (disch:=first|omega|assumption|rfl) only[go_sem,p1y,q1y,Nat.add_zero,Nat.zero_add,Int.toNat_zero,t1]
 refine Fn.mono (zcL y1 _ _ _ _ (h2.1.ext (hE1x.trans hy1)) (h4.1.ext (hE1x.trans hy1)) oa.b.LB ob.b.LB (by omega) (by omega)) ?_
 rintro _ y2 ⟨rfl,hy2⟩
 refine⟨.inr hy2,?_⟩
 simp (disch:=first|omega|assumption|rfl) only[go_sem]
 refine zbT (z:=vi 0) (l:=[vi (cmpN (zag a.1) (zag b.1)),vi (cmpN (zag a.2) (zag b.2))]) rfl rfl rfl rfl rfl rfl (fun v hv=>by simp at hv;rcases hv with rfl|rfl<;>rfl) (by simp) ?_
 intro y3 hy3 hs3 ho3
 refine⟨.inr hy3,?_⟩
 simp (disch:=first|omega|assumption|rfl) only[go_sem]
 refine Fn.mono (Or_ok y3 _ [cmpN (zag a.1) (zag b.1),cmpN (zag a.2) (zag b.2)] ho3.row (by simp)) ?_
 rintro _ y0 ⟨rfl,h0⟩
 replace h0:=h0.symm
 subst h0
 refine⟨.inr (Keep.refl _ _),?_⟩
 simp (disch:=first|omega|assumption|rfl) only[go_sem]
 refine hK _ _ ?_;clear hK hgd;clear K;try clear gd
 repeat refine c_r ?_
 refine rt0 Tryz.ntmps131 ?_
 exact⟨rfl,((hE1x.trans hy1).trans hy2).trans hy3⟩
theorem FewF_ok(w:World){S:Nat→Prop}(ca cb:List Value)(a b:zaI)(ha:PairAt S w ca a)(hb:PairAt S w cb b):
  Fn Tryz.prog 175 #[.agg ca.toArray,.agg cb.toArray] w (fun v w'=>v= .agg ca.toArray∧Ext w w'):=by
 obtain⟨a1,a2,rfl,h1,h2⟩:=ha.ex
 obtain⟨b1,b2,rfl,h3,h4⟩:=hb.ex
 have i1:=h1.1.isOne
 have i2:=h2.1.isOne
 obtain⟨x1,c1,e1,_⟩:=id h1.1
 obtain⟨x2,c2,e2,_⟩:=id h2.1
 obtain⟨x3,c3,e3,_⟩:=id h3.1
 obtain⟨x4,c4,e4,_⟩:=id h4.1
 refine enter Tryz.func175 Tryz.ntmps175 rfl rfl ?_
 repeat refine c_r ?_
 rw[e1,e2,e3,e4]
 refine rg0 ?_
 rw[←e1,←e2,←e3,←e4]
 repeat refine c_r ?_
 rw[zap,zap,zap]
 refine W_alloc3 ?_
 intro w1 hE1 hs1 hA hB hC
 have dA:=zay (n:=2) (l:=[a1,a2]) hA rfl
 repeat refine c_r ?_
 refine rq ?_;intro gd K hgd hK
 try simp (disch:=first|omega|assumption|rfl) only[go_sem,dA]
 refine zbQ (P:=Tryz.prog) (t:=238) (l:=[a1,a2]) hC rfl (zaX i1 i2) rfl rfl ?_
 intro w2 hs2 hC2 hk2
 try simp only[go_sem]
 refine hK _ _ ?_;clear hK hgd;clear K;try clear gd
 repeat refine c_r ?_
 have hE2:Ext w w2:=Keep.to_ext hE1 rfl (fun i hi=>by omega) hk2
 refine zhM (by simp) rfl Tryz.ntmps175 (vq0) rfl rfl (zay (n:=2) hC2 rfl) ?_
 exact⟨rfl,hE2⟩
abbrev PI:=(List Value×zaI)×Nat
def encPr(x:PI):List Value:=x.1.1
def zeR(a b:PI):Prop:=a.2<b.2
def ltPr(a b:PI):Prop:=zaT a.1.2 b.1.2<0∨(zaT a.1.2 b.1.2=0∧a.2<b.2)
def cfPr(a b:PI):Int:=zaT a.1.2 b.1.2
def UPr(S:Nat→Prop)(w:World)(x:PI):Prop:=PairAt S w x.1.1 x.1.2∧zbn x.1.2
theorem cmp_Pr{S:Nat→Prop}{w0 w:World}(hE0:Ext w0 w):S_pair.Cmp w encPr (UPr S w0) cfPr 131 []:=
 ⟨by decide,fun A x y hE hx hy=>zem A _ _ _ _ (hx.1.ext (hE0.trans hE)) (hy.1.ext (hE0.trans hE)) hx.2 hy.2⟩
theorem older_Pr:zdp cfPr ltPr zeR:=by
 refine⟨fun {a b c} h1 h2=>?_,fun {x y} ho h=> .inl h,fun {x y} ho h=>?_⟩
 ·rcases h1 with h1| ⟨h1,g1⟩<;>rcases h2 with h2| ⟨h2,g2⟩
  ·exact .inl (cpr_Pr.trans h1 h2)
  ·exact .inl (by rw[←cpr_Pr.eqr h2];exact h1)
  ·exact .inl (by rw[cpr_Pr.eql h1];exact h2)
  ·exact .inr ⟨by rw[cpr_Pr.eql h1];exact h2,by omega⟩
 ·have:=cpr_Pr.neg x.1.2 y.1.2
  have h':¬zaT y.1.2 x.1.2<0:=h
  by_cases h0:zaT x.1.2 y.1.2=0
  ·exact .inr ⟨h0,ho⟩
  ·exact .inl (by omega)
def zeroPr:List Value:=[.slice Option.none 0 0,.slice Option.none 0 0]
theorem zjk(w:World):SD 2 (w.alloc (.cells #[.slice Option.none 0 0,.slice Option.none 0 0] 238 (0,0))) w.heap.size 238 1 [zeroPr]:=
 ⟨⟨_,[],zam _ _,rfl,rfl⟩,fun x h=>(by rw[List.mem_singleton.1 h];rfl),fun x h v hv=>(by rw[List.mem_singleton.1 h]at hv;simp[zeroPr]at hv;rcases hv with rfl|rfl|rfl|rfl<;>rfl)⟩
def zc3(O:List zaI)(r:zaI):Bool:=match O.getLast? with
 |some x=>decide (zaT x r=0)
 |Option.none=>false
theorem prs_set{S:Nat→Prop}{w:World}{LO:List (List Value)}{O':List zaI}{z m:zaI}{X:List Value}{j:Nat}(hj:O'.length=j)(hl:LO.length=j+1)
  (h:∀q (h:q<LO.length) (h':q<(O'++ [z]).length),PairAt S w LO[q] (O'++ [z])[q]) (hX:PairAt S w X m):
  ∀q (h:q<(LO.set j X).length) (h':q<(O'++ [m]).length),PairAt S w (LO.set j X)[q] (O'++ [m])[q]:=by
 intro q h1 h2
 by_cases hq:q=j
 ·subst hq
  have e1:(LO.set q X)[q]=X:=by simp
  have e2:(O'++ [m])[q]=m:=by simp[←hj]
  rw[e1,e2];exact hX
 ·have hq2:q<O'.length:=by simp at h2;omega
  have e1:(LO.set j X)[q]=LO[q]'(by omega):=List.getElem_set_ne (by omega) _
  have e2:(O'++ [m])[q]=O'[q]:=List.getElem_append_left hq2
  have e3:(O'++ [z])[q]'(by simp;omega)=O'[q]:=List.getElem_append_left hq2
  rw[e1,e2,←e3];exact h q (by omega) (by simp;omega)
theorem prs_push{S:Nat→Prop}{w:World}{LO:List (List Value)}{O:List zaI}{m:zaI}{X:List Value}(hl:LO.length=O.length)
  (h:∀q (h:q<LO.length) (h':q<O.length),PairAt S w LO[q] O[q]) (hX:PairAt S w X m):
  ∀q (h:q<(LO++ [X]).length) (h':q<(O++ [m]).length),PairAt S w (LO++ [X])[q] (O++ [m])[q]:=by
 intro q h1 h2
 by_cases hq:q<LO.length
 ·rw[List.getElem_append_left hq,List.getElem_append_left (by omega)];exact h q hq (by omega)
 ·have hq1:q=LO.length:=by simp at h1;omega
  have e1:(LO++ [X])[q]=X:=by simp[hq1]
  have e2:(O++ [m])[q]=m:=by simp[hq1,hl]
  rw[e1,e2];exact hX
theorem fewPr_ok{S:Nat→Prop}(w0 w:World)(hE0:Ext w0 w){v:Value}{R:List zaI}(hR:Rows 2 (PairAt S w0) w v R)(hok:∀r∈R,zbn r)(hlen:R.length≤1000000000):
  Fn Tryz.prog 174 #[v,.func (.func 131) #[] #[],.func (.func 175) #[] #[]] w (fun u w'=>Rows 2 (PairAt S w0) w' u (renF R)∧Ext w w'∧BlkB w.heap.size w' u):=by
 obtain⟨L,hrow,hl,hat⟩:=hR
 have hk:∀x∈L,x.length=2:=fun x hx=>by
  obtain⟨i,hi,rfl⟩:=List.getElem_of_mem hx
  exact(hat i hi (by omega)).len
 have h1:∀x∈L,∀q∈x,one q=true:=fun x hx=>by
  obtain⟨i,hi,rfl⟩:=List.getElem_of_mem hx
  exact(hat i hi (by omega)).ones
 obtain⟨D,hD⟩:∃D:List PI,D=(L.zip R).zipIdx:=⟨_,rfl⟩
 have hDe:D.map encPr=L:=by
  rw[hD]
  show(List.zipIdx (L.zip R)).map (Prod.fst∘Prod.fst)=L
  rw[←List.map_map,List.zipIdx_map_fst,List.map_fst_zip (by omega)]
 have hDr:D.map (fun x=>x.1.2)=R:=by
  rw[hD]
  show(List.zipIdx (L.zip R)).map (Prod.snd∘Prod.fst)=R
  rw[←List.map_map,List.zipIdx_map_fst,List.map_snd_zip (by omega)]
 have hDl:D.length=R.length:=by rw[←hDr,List.length_map]
 have hDo:D.Pairwise zeR:=by
  rw[hD,List.pairwise_iff_getElem]
  intro i j hi hj hij
  simp[zeR,hij]
 have hDU:∀x∈D,UPr S w0 x:=fun x hx=>by
  rw[hD]at hx
  obtain⟨i,hi,rfl⟩:=List.getElem_of_mem hx
  have hi':i<R.length:=by simp at hi;omega
  have hi2:i<L.length:=by omega
  simp only[List.getElem_zipIdx,List.getElem_zip,UPr]
  exact⟨hat i hi2 hi',hok _ (List.getElem_mem hi')⟩
 refine enter Tryz.func174 Tryz.ntmps174 rfl rfl ?_
 repeat refine c_r ?_
 refine rg0 ?_
 repeat refine c_r ?_
 refine rq ?_;intro gd K hgd hK
 try simp only[go_sem]
 refine Fn.mono (S_pair.Clone_ok hrow hk h1 (by omega)) ?_
 rintro vs1 w1 ⟨ho1,hE1⟩
 try simp only[go_sem]
 refine hK _ _ ?_;clear hK hgd;clear K;try clear gd
 repeat refine c_r ?_
 refine rq ?_;intro gd K hgd hK
 try simp only[go_sem]
 rw[←hDe]at ho1
 refine Fn.mono (S_pair.SortOwn_ok (w0:=w) (cb:=[]) (cmp_Pr hE0) older_Pr (Nat.le_refl _) hDU hDo ho1 (by omega) hE1) ?_
 rintro _ w2 ⟨Z,hp,hs,ho2,hK2⟩
 try simp only[go_sem]
 refine hK _ _ ?_;clear hK hgd;clear K;try clear gd
 repeat refine c_r ?_
 have hE2:Ext w w2:=Keep.to_ext hE1 rfl (fun i hi=>by have:=(ho1.ge hi).1;omega) hK2
 have hE02:=hE0.trans hE2
 have hUZ:∀x∈Z,UPr S w0 x:=fun x hx=>hDU x (hp.mem_iff.1 hx)
 have hZl:=hp.length_eq
 obtain⟨aS,cS,rfl,hcs,hget⟩:=ho2.rowK
 refine rg0 ?_
 repeat refine c_r ?_
 refine rg0 ?_
 repeat refine c_r ?_
 rw[List.length_map]at hcs
 simp only[List.length_map]
 refine zai (fun m σ ds v=>ds=[]∧∃(i:Nat) (vO:Value) (LO:List (List Value)) (O:List zaI),i+m=Z.length∧σ 18=vi i∧σ 17=vi Z.length∧σ 16= .slice aS Z.length cS∧σ 7=vO∧σ 1= .func (.func 131) #[] #[]∧σ 2= .func (.func 175) #[] #[]∧
  OwnK 2 w2.heap.size v 238 vO LO∧LO.length=O.length∧(∀j (h:j<LO.length) (h':j<O.length),PairAt S w0 LO[j] O[j])∧(∀r∈O,zbn r)∧O.length≤i∧O=zcb zaT fstP (fun x:PI=>x.1.2) (Z.take i) []∧Ext w2 v∧O.Pairwise (fun a b=>zaT a b<0)∧(∀o∈O,∀z∈Z.drop i,¬0<zaT o z.1.2)) Z.length ?_ ?_
 ·refine⟨rfl,0,.slice Option.none 0 0,[],[],by omega,vr0,vq0,vq0,vq0,vq0,vq0,OwnK.nil _ _ _ _,rfl,fun j h=>absurd h (by simp),fun r h=>absurd h (by simp),by simp,rfl,Keep.refl _ _,List.Pairwise.nil,fun o h=>absurd h (by simp)⟩
 rintro m σ ds v ⟨rfl,i,vO,LO,O,him,h18,h17,h16,h7,hs1,hs2,hO,hOl,hOat,hOok,hOi,hOf,hE3,hOs,hOle⟩
 repeat refine c_r ?_
 refine rg2 h18 h17 ?_
 repeat refine c_r ?_
 refine wc0 ?_ ?_
 ·intro hlt
  simp only[decide_eq_true_eq]at hlt
  have hiZ:i<Z.length:=by omega
  have hgi:=zaf hE3 (hget i (by simpa using hiZ))
  have hi0:(0:Int)≤(i:Int):=by omega
  have hi1:(i:Int)<(Z.length:Int):=by omega
  obtain⟨xS,rfl⟩:=Option.isSome_iff_exists.1 (zan hgi)
  obtain⟨r,hr⟩:∃r,Z[i]=r:=⟨_,rfl⟩
  have hUr:UPr S w0 r:=hr▸hUZ _ (List.getElem_mem hiZ)
  have hgr:zaw v (adr (some xS) (i*2)) 2=some r.1.1:=by rw[hgi,List.getElem_map,hr];rfl
  repeat refine c_r ?_
  refine rq ?_;intro gd K hgd hK
  try simp (disch:=first|omega|assumption|rfl) only[go_sem,h18,h16,hi0,hi1,hgr]
  refine SD.set (P:=Tryz.prog) (t:=238) (zjk v) (j:=0) (by simp) hUr.1.len hUr.1.ones rfl rfl ?_
  intro v1 hvs1 hL1 hk1
  have hX1:=Ext.alloc v (.cells #[.slice Option.none 0 0,.slice Option.none 0 0] 238 (0,0))
  have hEv:Ext v v1:=Keep.to_ext hX1 rfl (fun i hi=>by omega) hk1
  have hvsz:v1.heap.size=v.heap.size+1:=by rw[hvs1];exact zap _ _
  clear hk1 hX1 hvs1
  try simp only[go_sem]
  refine hK _ _ ?_;clear hK hgd;clear K;try clear gd
  have hE4:=hE3.trans hEv
  have hO1:=hO.ext hEv
  have hg9:=hL1.get (j:=0) (by simp)
  have hsO:=hO.rowK
  obtain⟨aO,cO,hvO,hcO,hgO⟩:=hO1.rowK
  rw[hOl]at hvO
  repeat refine c_r ?_
  refine rg2 h7 hvO ?_
  repeat refine c_r ?_
  refine zax (Q:=fun e σ' ds' v'=>e= .normal∧ds'=[]∧σ' 36= .bool (zc3 O r.1.2)∧σ' 18=vi i∧σ' 17=vi Z.length∧σ' 16= .slice (some xS) Z.length cS∧σ' 7= .slice aO O.length cO∧σ' 1= .func (.func 131) #[] #[]∧σ' 2= .func (.func 175) #[] #[]∧
   σ' 9= .pointer (some ⟨v.heap.size,0,Option.none⟩)∧σ' 10=vi O.length∧Ext v1 v') ?_ ?_
  ·rcases List.eq_nil_or_concat O with hO0| ⟨O',z,hO0⟩
   ·have hn:¬((0:Int)<(O.length:Int)):=by rw[hO0];simp
    have hal:zc3 O r.1.2=false:=by rw[hO0];rfl
    refine zaL (fun _=>false) [(0,true),(1,true),(2,true),(3,true),(4,true),(5,true),(6,true),(7,true),(8,true),(9,true),(10,false),(11,true),(12,true)] NoS mixed (by kernel_rfl) ?_;intro gd K x hgd hx hxe hK;clear hxe
    have hg2:∀n σ b,zas gd n σ (some (2,b))=zaj (ev n σ (.tmp 26)) b:=(fun n σ b=>by rw[zab,show gd 2=some 26 from(by rw[hgd];rfl)];rfl)
    simp (disch:=first|omega|assumption|rfl) only[go_sem,h18,h17,h16,h7,hvO,hs1,hs2,decide_eq_false hn,↓hg2]
    refine hK _ _ ?_;clear hK hgd;clear K;try clear gd
    exact⟨rfl,rfl,by rw[hal];simp only[go_sem],(vq1 h18),(vq1 h17),(vq1 h16),(vq2 h7 hvO),(vq1 hs1),(vq1 hs2),vq0,vq0,hx⟩
   ·rw[List.concat_eq_append]at hO0
    obtain⟨j,hj⟩:∃j,O'.length=j:=⟨_,rfl⟩
    have hOj:O.length=j+1:=by rw[hO0];simp[hj]
    have hn:decide ((0:Int)<((j+1:Nat):Int))=true:=decide_eq_true (by omega)
    have hs:((j+1:Nat):Int) - 1=(j:Int):=by omega
    have hj0:(0:Int)≤(j:Int):=by omega
    have hj1:(j:Int)<((j+1:Nat):Int):=by omega
    have hal:zc3 O r.1.2=decide (zaT z r.1.2=0):=by unfold zc3;rw[hO0];simp
    have hgj:=hgO j (by omega)
    have hRj:=hOat j (by omega) (by omega)
    have hxj:O[j]'(by omega)=z:=by simp only[hO0,←hj];simp
    rw[hxj]at hRj
    have hokx:zbn z:=hOok z (by rw[hO0];simp)
    obtain⟨xO,rfl⟩:=Option.isSome_iff_exists.1 (zan hgj)
    obtain⟨cx,hcx⟩:∃cx,LO[j]'(by omega)=cx:=⟨_,rfl⟩
    rw[hcx]at hgj hRj
    rw[hOj]at hvO ⊢
    refine zaL (fun _=>false) [(0,true),(1,true),(2,true),(3,true),(4,true),(5,true),(6,true),(7,true),(8,true),(9,true),(10,false),(11,true),(12,true)] NoS mixed (by kernel_rfl) ?_;intro gd K x hgd hx hxe hK;clear hxe
    have hg2:∀n σ b,zas gd n σ (some (2,b))=zaj (ev n σ (.tmp 26)) b:=(fun n σ b=>by rw[zab,show gd 2=some 26 from(by rw[hgd];rfl)];rfl)
    have d1:=zaf hx hgj
    have d2:=zaf hx hg9
    simp (disch:=first|omega|assumption|rfl) only[go_sem,h18,h17,h16,h7,hvO,hs1,hs2,hn,hs,hj0,hj1,d1,d2,hOj,↓hg2]
    refine Fn.mono (zem x cx r.1.1 z r.1.2 (hRj.ext ((hE02.trans hE4).trans hx)) (hUr.1.ext ((hE02.trans hE4).trans hx)) hokx hUr.2) ?_
    rintro _ x2 ⟨rfl,hx2⟩
    refine⟨.inr hx2,?_⟩
    simp (disch:=first|omega|assumption|rfl) only[go_sem,↓hg2]
    refine hK _ _ ?_;clear hK hgd;clear K;try clear gd
    exact⟨rfl,rfl,by rw[hal];simp only[go_sem],(vq1 h18),(vq1 h17),(vq1 h16),(vq2 h7 hvO),(vq1 hs1),(vq1 hs2),vq0,vq0,hx.trans hx2⟩
  rintro _ σ2 _ v2 ⟨rfl,rfl,g36,g18,g17,g16,g7,gs1,gs2,g9,g10,hE5⟩
  have hE6:=hE4.trans hE5
  have hO2:=hO1.ext hE5
  have hg92:=zaf hE5 hg9
  have hi1':(i:Int)+1=((i+1:Nat):Int):=by push_cast;rfl
  have htk:Z.take (i+1)=Z.take i++ [r]:=by rw[zak hiZ,hr]
  have hf1:zcb zaT fstP (fun x:PI=>x.1.2) (Z.take (i+1)) []=putC zaT fstP r.1.2 O:=by
   rw[htk,hOf];unfold zcb;rw[List.foldl_append];rfl
  have hdr:Z.drop i=r::Z.drop (i+1):=by rw[List.drop_eq_getElem_cons hiZ,hr]
  have hn1:(putC zaT fstP r.1.2 O).Pairwise (fun a b=>zaT a b<0):=zb4 cpr_Pr zjY hOs
  have hn2:∀o∈putC zaT fstP r.1.2 O,∀z∈Z.drop (i+1),¬0<zaT o z.1.2:=by
   refine zcC (Q:=fun o=>∀z∈Z.drop (i+1),¬0<zaT o z.1.2) (fun x hx h0 z hz=>?_) (fun z hz=>?_) (fun o ho z hz=>hOle o ho z (by rw[hdr];exact List.mem_cons_of_mem _ hz))
   ·have e1:zaT (fstP x r.1.2) z.1.2=zaT x z.1.2:=rfl
    rw[e1];exact hx z hz
   ·have h3:=List.Pairwise.sublist (List.drop_sublist i Z) hs
    rw[hdr]at h3
    have h4:=(List.pairwise_cons.1 h3).1 z hz
    rcases h4 with h4|h4
    ·omega
    ·omega
  have hn3:∀o∈putC zaT fstP r.1.2 O,zbn o:=zcC (fun x hx _=>hx) hUr.2 hOok
  repeat refine c_r ?_
  refine zaO (t:=zc3 O r.1.2) (by simp only[go_sem,g36]) ?_ ?_
  ·intro hal
   rcases List.eq_nil_or_concat O with hO0| ⟨O',z,hO0⟩
   ·rw[hO0]at hal;simp[zc3]at hal
   rw[List.concat_eq_append]at hO0
   have hz0:zaT z r.1.2=0:=by unfold zc3 at hal;rw[hO0]at hal;simpa using hal
   obtain⟨j,hj⟩:∃j,O'.length=j:=⟨_,rfl⟩
   have hOj:O.length=j+1:=by rw[hO0];simp[hj]
   have hs:((j+1:Nat):Int) - 1=(j:Int):=by omega
   have hj0:(0:Int)≤(j:Int):=by omega
   have hj1:(j:Int)<((j+1:Nat):Int):=by omega
   have hRj:=hOat j (by omega) (by omega)
   have hxj:O[j]'(by omega)=z:=by simp only[hO0,←hj];simp
   rw[hxj]at hRj
   have hokz:zbn z:=hOok z (by rw[hO0];simp)
   obtain⟨cx,hcx⟩:∃cx,LO[j]'(by omega)=cx:=⟨_,rfl⟩
   rw[hcx]at hRj
   rw[hOj]at hvO g10 g7
   rcases hO2.cases with ⟨hv0,h0⟩| ⟨b,cap,hvb,hbB,hbc,hbm,hSD⟩
   ·rw[h0]at hOl;simp at hOl;omega
   rw[hvO,hOl,hOj]at hvb
   have hao:aO=some ⟨b,0,Option.none⟩:=by injection hvb
   have hcap:cO=cap:=by injection hvb
   subst hao hcap
   have hdj:=hSD.get (j:=j) (by omega)
   rw[hcx]at hdj
   repeat refine c_r ?_
   refine zaL (fun i=>i==12) [(0,true),(1,true),(2,true),(3,true),(4,true),(5,true),(6,true),(7,true),(8,true),(9,true),(10,false),(11,true),(12,false)] NoS mixed (by kernel_rfl) ?_;intro gd K x hgd hx hxe hK;clear hxe
   have d1:=zaf hx hdj
   have d2:=zaf hx hg92
   simp (disch:=first|omega|assumption|rfl) only[go_sem,g7,g10,gs2,g9,hs,hj0,hj1,d1,d2]
   refine Fn.mono (FewF_ok x cx r.1.1 z r.1.2 (hRj.ext ((hE02.trans hE6).trans hx)) (hUr.1.ext ((hE02.trans hE6).trans hx))) ?_
   rintro _ v3 ⟨rfl,hE7⟩
   refine⟨.inr hE7,?_⟩
   simp (disch:=first|omega|assumption|rfl) only[go_sem,g7,g10,hs,hj0,hj1]
   have hSD3:=(hSD.ext hx).ext hE7
   have hRm:PairAt S w0 cx (fstP z r.1.2):=hRj
   refine SD.set (P:=Tryz.prog) (t:=238) hSD3 (j:=j) (by omega) hRm.len hRm.ones rfl rfl ?_
   intro v4 hv4 hL4 hk4
   refine⟨.inl rfl,?_⟩
   simp (disch:=first|omega|assumption|rfl) only[go_sem]
   refine hK _ _ ?_;clear hK hgd;clear K;try clear gd
   have hE8:Ext w2 v4:=Keep.to_ext ((hE6.trans hx).trans hE7) rfl (fun i hi=>by omega) hk4
   repeat refine c_r ?_
   refine rg2 g18 hi1' ?_
   repeat refine c_r ?_
   have hO4:=OwnK.of_sd (B:=w2.heap.size) hL4 hbB (by rw[List.length_set];exact hbc) hbm
   have hLl:LO.length=j+1:=by omega
   rw[List.length_set,hLl]at hO4
   have hput:putC zaT fstP r.1.2 O=O'++ [fstP z r.1.2]:=by
    rw[hO0]at hOs hOle ⊢
    rw[zes cpr_Pr hOs (by omega),if_pos hz0]
   rw[hput]at hn1 hn2 hn3
   subst hO0
   refine⟨m - 1,by omega,rfl,i+1,.slice (some ⟨b,0,Option.none⟩) (j+1) cO,_,O'++ [fstP z r.1.2],by omega,vq0,(vq1 g17),(vq1 g16),(vq1 g7),by simp only[go_sem,gs1],by simp only[go_sem,gs2],hO4,by simp[hLl,hj],prs_set hj hLl hOat hRm,hn3,by simp at hOi ⊢;omega,by rw[hf1,hput],hE8,hn1,hn2⟩
  ·intro hal
   have hput:putC zaT fstP r.1.2 O=O++ [r.1.2]:=by
    rcases List.eq_nil_or_concat O with hO0| ⟨O',z,hO0⟩
    ·rw[hO0];rfl
    ·rw[List.concat_eq_append]at hO0
     have hz0:¬zaT z r.1.2=0:=by unfold zc3 at hal;rw[hO0]at hal;simpa using hal
     have hle:=hOle z (by rw[hO0];simp) r (by rw[hdr];simp)
     rw[hO0]at hOs ⊢
     rw[zes cpr_Pr hOs hle,if_neg hz0]
     simp
   rw[hput]at hn1 hn2 hn3
   rw[hvO]at hO2
   repeat refine c_r ?_
   refine rq ?_;intro gd K hgd hK
   try simp (disch:=first|omega|assumption|rfl) only[go_sem,g7,g9,hg92]
   refine zhu (k:=2) (by rfl) (by rfl) (by rfl) (by rfl) hUr.1.len (by decide) hUr.1.ones ?_
   intro x1 hX1 hXs hXo
   try simp only[go_sem]
   refine zeQ (k:=2) (B:=w2.heap.size) (hO2.ext hX1) hXo.rowK (by rfl) (by rfl) (by rfl) (by rfl) (by rfl) (by rfl) (by decide) (by rfl) (by rfl) hXo.len hXo.ones (by simp;omega) (by decide) (hE6.trans hX1).size ?_
   intro vO' x2 hO3 hE7 _ _ _
   try simp only[go_sem]
   refine hK _ _ ?_;clear hK hgd;clear K;try clear gd
   repeat refine c_r ?_
   refine rg2 g18 hi1' ?_
   repeat refine c_r ?_
   refine⟨m - 1,by omega,rfl,i+1,vO',_,O++ [r.1.2],by omega,vq0,(vq1 g17),(vq1 g16),vq0,by simp only[go_sem,gs1],by simp only[go_sem,gs2],hO3,by simp[hOl],prs_push hOl hOat hUr.1,hn3,by simp;omega,by rw[hf1,hput],hE7 w2 (hE6.trans hX1) (Nat.le_refl _),hn1,hn2⟩
 ·intro hlt
  simp only[decide_eq_false_iff_not]at hlt
  have hiZ:i=Z.length:=by omega
  repeat refine c_r ?_
  refine rq ?_;intro gd K hgd hK
  try simp (disch:=first|omega|assumption|rfl) only[go_sem,h7]
  obtain⟨aO,cO,hvO,hcO,hgO⟩:=hO.rowK
  have hblk:BlkB w2.heap.size v vO:=Owns.blk (C:=PairAt S w0) (xs:=O) ⟨LO,hO,hOl,hOat⟩
  rw[hvO]at hblk
  rw[hvO]
  refine Fn.mono (P_pp.Clip_ok hcO) ?_
  rintro _ v1 ⟨rfl,hv1⟩
  try simp only[go_sem]
  refine hK _ _ ?_;clear hK hgd;clear K;try clear gd
  repeat refine c_r ?_
  have hfin:O=renF R:=by
   rw[hOf,hiZ,List.take_length,zcU (jn:=fstP) cpr_Pr zjY (lt:=ltPr) (older:=zeR) (fun h=>h.imp id (fun h=>h.2)) (fun {a b} h h'=>by unfold zeR at h h';omega) D Z [] hDo hs hp List.Pairwise.nil]
   unfold renF zcb
   rw[←hDr,List.foldl_map]
  refine rt0 Tryz.ntmps174 ?_
  rw[hv1]
  rw[←hfin]
  exact⟨⟨LO,⟨aO,LO.length,rfl,Nat.le_refl _,hgO⟩,hOl,hOat⟩,hE2.trans hE3,hblk.same.mono hE2.size⟩
structure RenZ(S:Nat→Prop)(w:World)(v:Value)(ren:List zaI):Prop where
 rows:Rows 2 (PairAt S w) w v ren
 blk:∀a n c,v= .slice (some a) n c→a.block<w.heap.size∧¬S a.block
theorem RenZ.turn{S S':Nat→Prop}{w x:World}{v:Value}{ren:List zaI}(h:RenZ S w v ren)(hk:Keep S w x)(hS:∀b,S' b→S b∨w.heap.size≤b):RenZ S' x v ren:=by
 have hs:=hk.size
 refine⟨(h.rows.blocks fun a n c hv=>hk.block _ (h.blk a n c hv).1 (h.blk a n c hv).2).to fun cs p hp=>hp.turn hk hS,fun a n c hv=>?_⟩
 obtain⟨h1,h2⟩:=h.blk a n c hv
 exact⟨by omega,fun h=>by
  rcases hS _ h with h|h
  ·exact h2 h
  ·omega⟩
theorem FewPr_ok{S:Nat→Prop}(w0 w:World)(hE0:Ext w0 w){v:Value}{R:List zaI}(hR:Rows 2 (PairAt S w0) w v R)(hok:∀r∈R,zbn r)(hlen:R.length≤1000000000):
  Fn Tryz.prog 130 #[v,.func (.func 131) #[] #[]] w (fun u w'=>Rows 2 (PairAt S w0) w' u (renF R)∧Ext w w'∧BlkB w.heap.size w' u):=by
 obtain⟨a,c,hv,_⟩:=hR.open
 refine enter Tryz.func130 Tryz.ntmps130 rfl rfl ?_
 repeat refine c_r ?_
 rw[hv]
 refine rg0 ?_
 rw[←hv]
 repeat refine c_r ?_
 refine rc trivial (fewPr_ok w0 w hE0 hR hok hlen) ?_
 rintro u w1 ⟨h1,h2,h3⟩
 refine re trivial ?_
 repeat refine c_r ?_
 refine rt0 Tryz.ntmps130 ?_
 exact⟨h1,h2,h3⟩
def renO(r:RecL):Option zaI:=if r.dat.ty=39 then r.dat.names.head?.map fun n=>(zag r.owner,zag n) else Option.none
def renZ(z:zdT):List zaI:=z.recs.filterMap renO
def renH(h:zfm):List zaI:=h.zones.flatMap renZ
def zce(N:NetL):List zaI:=N.hosts.flatMap renH
def renN(N:NetL):List zaI:=renF (zce N)
theorem zfK{Q:zaI→Prop}{l:List zaI}(h:∀p∈l,Q p):∀p∈renF l,Q p:=by
 unfold renF zcb
 suffices hs:∀(l acc:List zaI),(∀p∈l,Q p)→(∀p∈acc,Q p)→∀p∈l.foldl (fun acc r=>putC zaT fstP r acc) acc,Q p from hs l [] h (fun p hp=>by cases hp)
 intro l
 induction l with
 |nil=>exact fun acc _ h=>h
 |cons a l ih=>exact fun acc h1 h2=>ih _ (fun p hp=>h1 p (List.mem_cons_of_mem _ hp)) (zcC (fun x hx _=>hx) (h1 a (List.mem_cons_self ..)) h2)
theorem zfJ{l:List zaI}:(renF l).length≤l.length:=by
 unfold renF zcb
 suffices hs:∀(l acc:List zaI),(l.foldl (fun acc r=>putC zaT fstP r acc) acc).length≤acc.length+l.length from by have:=hs l [];simpa using this
 have hp:∀(r:zaI) (acc:List zaI),(putC zaT fstP r acc).length≤acc.length+1:=by
  intro r acc
  induction acc with
  |nil=>simp[putC]
  |cons x l ih=>
   unfold putC
   split
   ·simp only[List.length_cons];omega
   ·split<;>simp
 intro l
 induction l with
 |nil=>intro acc;simp
 |cons a l ih=>
  intro acc
  rw[List.foldl_cons,List.length_cons]
  have h1:=ih (putC zaT fstP a acc)
  have h2:=hp a acc
  omega
theorem renO_ok{r:RecL}{p:zaI}(h1:zaH r.owner=0)(h2:∀n∈r.dat.names,zaH n=0)(h:renO r=some p):zbn p:=by
 unfold renO at h
 split at h
 ·cases hn:r.dat.names.head? with
  |none=>rw[hn]at h;cases h
  |some n=>
   rw[hn]at h
   cases h
   exact⟨(zaZ h1).fold,(zaZ (h2 n (List.mem_of_head? hn))).fold⟩
 ·cases h
theorem zdG{N:NetL}(hG:zbb N):∀p∈zce N,zbn p:=by
 intro p hp
 unfold zce renH renZ at hp
 obtain⟨h,hh,hp⟩:=List.mem_flatMap.1 hp
 obtain⟨z,hz,hp⟩:=List.mem_flatMap.1 hp
 obtain⟨r,hr,hp⟩:=List.mem_filterMap.1 hp
 have gz:=(hG.z.z h hh z hz).gd
 exact renO_ok (gz.own r hr) (gz.names r hr) hp
theorem zc6{N:NetL}(hG:zbb N):(zce N).length≤2000:=by
 have h3:∀x∈N.hosts,∀z∈x.zones,(renZ z).length≤60:=fun x hx z hz=>by
  have:=(hG.z.z x hx z hz).gd.len
  have:=List.length_filterMap_le renO z.recs
  unfold renZ;omega
 have h4:∀x∈N.hosts,(renH x).length≤240:=fun x hx=>by
  have h1:=zgy (l:=x.zones) (f:=renZ) (k:=60) (h3 x hx)
  have:=hG.zl x hx
  unfold renH;omega
 have h5:=zgy (l:=N.hosts) (f:=renH) (k:=240) h4
 have:=hG.h1.2
 unfold zce;omega
def RO(S:Nat→Prop)(B:Nat)(v:World)(ov:Value)(xs:List zaI):Prop:=Owns 2 (PairAt (fun b=>S b∨some b=ov.ownBlock) v) B v 238 ov xs
theorem RO.ext{S:Nat→Prop}{B:Nat}{v x:World}{ov:Value}{xs:List zaI}(h:RO S B v ov xs)(hE:Ext v x):RO S B x ov xs:=(Owns.ext h hE).to fun _ _ h=>h.ext hE
theorem ziZ{w0 w:World}{S:Nat→Prop}(hE0:Ext w0 w)(hS:∀b,S b→b<w.heap.size){cs:List Value}{N:NetL}(hN:NetAt w0 cs N)(hG:zbb N):
  Fn Tryz.prog 78 #[.agg cs.toArray] w (fun v w'=>Ext w w'∧RenZ S w' v (renN N)):=by
 obtain⟨hv,rv,rfl,hh,hr⟩:=hN.ex
 obtain⟨ah,ch,hhv,hch,hgh⟩:=hh.open
 obtain⟨ar,cr,hrv,_⟩:=id hr
 have hl6:=hG.h1.2
 have hall:=zc6 hG
 refine enter Tryz.func78 Tryz.ntmps78 rfl rfl ?_
 repeat refine c_r ?_
 rw[hhv,hrv]
 refine rg0 ?_
 rw[←hrv]
 repeat refine c_r ?_
 refine zaM ?_
 intro w1 hE1 hs1 hA
 have pn:zah w1 (some ⟨w.heap.size,0,Option.none⟩)=some (.slice ah N.hosts.length ch):=zac hA rfl
 have hE01:=hE0.trans hE1
 repeat refine c_r ?_
 refine rg0 ?_
 repeat refine c_r ?_
 refine rg2 pn Nat.add_zero ?_
 repeat refine c_r ?_
 refine zai (fun m σ ds v=>ds=[]∧∃(i:Nat) (ov:Value) (xs:List zaI),i+m=N.hosts.length∧σ 13=vi i∧σ 12=vi N.hosts.length∧σ 11= .slice ah N.hosts.length ch∧σ 3=ov∧Ext w1 v∧RO S w1.heap.size v ov xs∧zce N=xs++(N.hosts.drop i).flatMap renH) N.hosts.length ?_ ?_
 ·exact⟨rfl,0,.slice Option.none 0 0,[],by omega,vr0,vq0,vq0,vq0,Keep.refl _ _,Owns.nil _ _ _ _ _,rfl⟩
 rintro m σ ds v ⟨rfl,i,ov,xs,him,s13,s12,s11,s3,hEv,hRO,hbe⟩
 repeat refine c_r ?_
 refine rg2 s13 s12 ?_
 repeat refine c_r ?_
 refine wc0 ?_ ?_
 ·intro hlt
  simp only[decide_eq_true_eq]at hlt
  have hi:i<N.hosts.length:=by omega
  have hi0:(0:Int)≤(i:Int):=by omega
  have hi1':(i:Int)+1=((i+1:Nat):Int):=by push_cast;rfl
  obtain⟨hcs,hce,hH⟩:=hgh i hi
  have hmem:=List.getElem_mem hi
  rw[zbl hi]at hbe
  obtain⟨h,hhe⟩:∃x,N.hosts[i]=x:=⟨_,rfl⟩
  rw[hhe]at hH hmem hbe
  obtain⟨nv,b1,b2,b3,b4,zv,rfl,_,hnv,hz⟩:=hH.ex
  obtain⟨az,cz,rfl,hcz,hgz⟩:=hz.open
  have hzl:=hG.zl h hmem
  obtain⟨xa,rfl⟩:=Option.isSome_iff_exists.1 (zan hce)
  obtain⟨xi,hxi⟩:∃xi,adr (some xa) (i*6)=some xi:=⟨_,rfl⟩
  rw[hxi]at hce
  have d:=zaf (hE01.trans hEv) hce
  have n1:=hnv.isOne
  repeat refine c_r ?_
  refine rq ?_;intro gd K hgd hK
  try simp (disch:=first|omega|assumption|rfl) only[go_sem,s13,s11,hi0,hlt,hxi,d]
  refine za3 (P:=Tryz.prog) (l:=[nv,zae b1,zae b2,zae b3,zae b4,.slice az h.zones.length cz]) rfl (fun q hq=>by simp at hq;rcases hq with rfl|rfl|rfl|rfl|rfl|rfl<;>first|exact n1|rfl) rfl rfl ?_
  intro v1 hE2 hs2 hB4
  try simp only[go_sem]
  refine hK _ _ ?_;clear hK hgd;clear K;try clear gd
  obtain⟨c4,hc4⟩:∃b,v.heap.size=b:=⟨_,rfl⟩
  rw[hc4]at hB4 hs2 ⊢
  have q5:zah v1 (some ⟨c4,5,Option.none⟩)=some (.slice az h.zones.length cz):=zac hB4 rfl
  obtain⟨R1,hR1⟩:∃R,(N.hosts.drop (i+1)).flatMap renH=R:=⟨_,rfl⟩
  rw[hR1]at hbe
  unfold renH at hbe
  repeat refine c_r ?_
  refine rg2 q5 Nat.zero_add ?_
  repeat refine c_r ?_
  refine zai (fun m σ ds v=>ds=[]∧∃(k:Nat) (ov:Value) (xs:List zaI),k+m=h.zones.length∧σ 20=vi k∧σ 19=vi h.zones.length∧σ 18= .slice az h.zones.length cz∧σ 13=vi i∧σ 12=vi N.hosts.length∧σ 11= .slice (some xa) N.hosts.length ch∧σ 3=ov∧Ext w1 v∧RO S w1.heap.size v ov xs∧zce N=xs++((h.zones.drop k).flatMap renZ++R1)) h.zones.length ?_ ?_
  ·exact⟨rfl,0,ov,xs,by omega,vr0,vq0,vq0,(vq1 s13),(vq1 s12),(vq1 s11),(vq1 s3),hEv.trans hE2,hRO.ext hE2,hbe⟩
  clear s13 s12 s11 s3 hRO hbe d q5 hB4 hce hE2 hs2
  rintro m2 σ2 ds2 v2 ⟨rfl,k,ov2,xs2,hkm,s20,s19,s18,s13,s12,s11,s3,hEv2,hRO,hbe⟩
  repeat refine c_r ?_
  refine rg2 s20 s19 ?_
  repeat refine c_r ?_
  refine wc0 ?_ ?_
  ·intro hlt2
   simp only[decide_eq_true_eq]at hlt2
   have hk:k<h.zones.length:=by omega
   have hk0:(0:Int)≤(k:Int):=by omega
   have hk1':(k:Int)+1=((k+1:Nat):Int):=by push_cast;rfl
   obtain⟨zcs,hze,hZ⟩:=hgz k hk
   have hzmem:=List.getElem_mem hk
   rw[zbl hk,List.append_assoc]at hbe
   obtain⟨z,hzz⟩:∃x,h.zones[k]=x:=⟨_,rfl⟩
   rw[hzz]at hZ hzmem hbe
   obtain⟨zo,lv,rfl,hov,hlv⟩:=hZ.ex
   obtain⟨al,cl,rfl,hcl,hgl⟩:=hlv.open
   have gz:=(hG.z.z h hmem z hzmem).gd
   have hrl:=gz.len
   obtain⟨xz,rfl⟩:=Option.isSome_iff_exists.1 (zan hze)
   obtain⟨xk,hxk⟩:∃xi,adr (some xz) (k*2)=some xi:=⟨_,rfl⟩
   rw[hxk]at hze
   have d:=zaf (hE01.trans hEv2) hze
   have o1:=hov.isOne
   repeat refine c_r ?_
   refine rq ?_;intro gd K hgd hK
   try simp (disch:=first|omega|assumption|rfl) only[go_sem,s20,s18,hk0,hlt2,hxk,d]
   refine za3 (P:=Tryz.prog) (l:=[zo,.slice al z.recs.length cl]) rfl (zaX o1 rfl) rfl rfl ?_
   intro v3 hE3 hs3 hB6
   try simp only[go_sem]
   refine hK _ _ ?_;clear hK hgd;clear K;try clear gd
   obtain⟨c6,hc6⟩:∃b,v2.heap.size=b:=⟨_,rfl⟩
   rw[hc6]at hB6 hs3 ⊢
   have q1:zah v3 (some ⟨c6,1,Option.none⟩)=some (.slice al z.recs.length cl):=zac hB6 rfl
   obtain⟨R2,hR2⟩:∃R,(h.zones.drop (k+1)).flatMap renZ++R1=R:=⟨_,rfl⟩
   rw[hR2]at hbe
   unfold renZ at hbe
   repeat refine c_r ?_
   refine rg2 q1 Nat.zero_add ?_
   repeat refine c_r ?_
   refine zai (fun m σ ds v=>ds=[]∧∃(j:Nat) (ov:Value) (xs:List zaI),j+m=z.recs.length∧σ 27=vi j∧σ 26=vi z.recs.length∧σ 25= .slice al z.recs.length cl∧σ 20=vi k∧σ 19=vi h.zones.length∧σ 18= .slice (some xz) h.zones.length cz∧σ 13=vi i∧σ 12=vi N.hosts.length∧σ 11= .slice (some xa) N.hosts.length ch∧σ 3=ov∧Ext w1 v∧RO S w1.heap.size v ov xs∧zce N=xs++((z.recs.drop j).filterMap renO++R2)) z.recs.length ?_ ?_
   ·exact⟨rfl,0,ov2,xs2,by omega,vr0,vq0,vq0,(vq1 s20),(vq1 s19),(vq1 s18),(vq1 s13),(vq1 s12),(vq1 s11),(vq1 s3),hEv2.trans hE3,hRO.ext hE3,hbe⟩
   clear s20 s19 s18 s13 s12 s11 s3 hRO hbe d q1 hB6 hze hE3 hs3
   rintro m3 σ3 ds3 v4 ⟨rfl,j,ov3,xs3,hjm,s27,s26,s25,s20,s19,s18,s13,s12,s11,s3,hEv4,hRO,hbe⟩
   repeat refine c_r ?_
   refine rg2 s27 s26 ?_
   repeat refine c_r ?_
   refine wc0 ?_ ?_
   ·intro hlt3
    simp only[decide_eq_true_eq]at hlt3
    have hj:j<z.recs.length:=by omega
    have hj0:(0:Int)≤(j:Int):=by omega
    have hj1':(j:Int)+1=((j+1:Nat):Int):=by push_cast;rfl
    obtain⟨rcs,hre,hR⟩:=hgl j hj
    have hrmem:=List.getElem_mem hj
    rw[List.drop_eq_getElem_cons hj]at hbe
    obtain⟨r,hrr⟩:∃x,z.recs[j]=x:=⟨_,rfl⟩
    rw[hrr]at hR hrmem hbe
    have hrone:=hR.ones
    obtain⟨ow,ds,rfl,how,hD⟩:=hR.ex
    obtain⟨nm,nu,tx,rw',rfl,⟨vals,hvr,hvl,hvn⟩,_,_,_⟩:=hD.ex
    obtain⟨xr,rfl⟩:=Option.isSome_iff_exists.1 (zan hre)
    obtain⟨xj,hxj⟩:∃xi,adr (some xr) (j*7)=some xi:=⟨_,rfl⟩
    rw[hxj]at hre
    have hE0v:=hE01.trans hEv4
    have d:=zaf hE0v hre
    have n8:=(gz.few r hrmem).2.n8
    obtain⟨an,cn,hnm,hcn,hgn⟩:=id hvr
    repeat refine c_r ?_
    refine rq ?_;intro gd K hgd hK
    try simp (disch:=first|omega|assumption|rfl) only[go_sem,s27,s25,hj0,hlt3,hxj,d]
    refine za3 (P:=Tryz.prog) rfl hrone rfl rfl ?_
    intro v5 hE5 hs5 hB8
    try simp only[go_sem]
    refine hK _ _ ?_;clear hK hgd;clear K;try clear gd
    obtain⟨c8,hc8⟩:∃b,v4.heap.size=b:=⟨_,rfl⟩
    rw[hc8]at hB8 hs5 ⊢
    have q0:zah v5 (some ⟨c8,0,Option.none⟩)=some ow:=zac hB8 rfl
    have q2:zah v5 (some ⟨c8,2,Option.none⟩)=some (vi r.dat.ty):=zac hB8 rfl
    have q3:zah v5 (some ⟨c8,3,Option.none⟩)=some nm:=zac hB8 rfl
    rw[hnm]at q3
    have hRO5:=hRO.ext hE5
    have hE05:=hE0v.trans hE5
    have hEv5:=hEv4.trans hE5
    by_cases e39:r.dat.ty=39
    ·rcases hnames:r.dat.names with _| ⟨n0,ns⟩
     ·have hv0:vals.length=0:=by rw[hvl,hnames];rfl
      have hro:renO r=Option.none:=by unfold renO;rw[if_pos e39,hnames];rfl
      rw[List.filterMap_cons_none hro]at hbe
      repeat refine c_r ?_
      refine rgg [(4,35)] (an6 q2 Nat.add_zero Nat.zero_add (decide_eq_true e39) q3 (show decide ((vals.length:Int)>0)=false from decide_eq_false (by omega))) ?_
      repeat refine c_r ?_
      refine wf trivial ?_
      repeat refine c_r ?_
      refine rg2 s27 hj1' ?_
      repeat refine c_r ?_
      exact⟨m3 - 1,by omega,rfl,j+1,ov3,xs3,by omega,vq0,(vq1 s26),(vq1 s25),(vq1 s20),(vq1 s19),(vq1 s18),(vq1 s13),(vq1 s12),(vq1 s11),(vq1 s3),hEv5,hRO5,hbe⟩
     ·have hv0:0<vals.length:=by rw[hvl,hnames];simp
      have hro:renO r=some (zag r.owner,zag n0):=by unfold renO;rw[if_pos e39,hnames];rfl
      rw[List.filterMap_cons_some hro]at hbe
      have hn0:Row w0 (vals[0]'hv0) (n0.map vs):=by
       have:=hvn 0 hv0 (by rw[hnames];simp)
       simpa only[hnames,List.getElem_cons_zero] using this
      obtain⟨y0,hy0⟩:∃y,vals[0]'hv0=y:=⟨_,rfl⟩
      have g0:=hgn 0 hv0
      obtain⟨xn,rfl⟩:=Option.isSome_iff_exists.1 (zad g0)
      rw[zar,hy0]at g0
      rw[hy0]at hn0
      have ko:=(zaZ (gz.own r hrmem))
      have kn:=(zaZ (gz.names r hrmem n0 (by rw[hnames];simp)))
      have lo1:=ko.len
      have ln1:=kn.len
      have hv0i:(0:Int)<(vals.length:Int):=by omega
      repeat refine c_r ?_
      refine rgg [(4,35)] (an6 q2 Nat.add_zero Nat.zero_add (decide_eq_true e39) q3 (show decide ((vals.length:Int)>0)=true from decide_eq_true (by omega))) ?_
      repeat refine c_r ?_
      refine wt trivial ?_
      repeat refine c_r ?_
      have hgo:∀{b},some b=ov3.ownBlock→w1.heap.size≤b∧b<c8:=fun {b} hb=>by have:=hRO.ge hb;omega
      have hxnb:xn.block<w1.heap.size:=by
       have h1:xn.block<w0.heap.size:=zcj g0
       have:=hE01.size;omega
      refine zaL (fun _=>false) [(0,true),(1,true),(2,true),(4,true),(5,true),(6,true),(7,true),(8,true),(3,false),(9,false),(10,true),(11,false),(12,false),(13,true)] ((fun i=>some i=ov3.ownBlock)) mixed (by kernel_rfl) ?_;intro gd K x hgd hx hxe hK;have hx0:=drewX hxe;clear hxe
      have q0x:=zaa hx0 q0
      have q3x:=zaa hx0 q3
      have hE0x:=hE05.trans hx0
      have g0x:=zaa hE0x g0
      have hzx:=hx0.size
      simp (disch:=first|omega|assumption|rfl) only[go_sem,s3,q0x,q3x,g0x,hv0i,Nat.add_zero,Nat.zero_add,Nat.zero_mul,zar,Int.toNat_zero]
      have o8:∀k,offS (fun i=>some i=ov3.ownBlock) (some ⟨c8,k,Option.none⟩):=fun k a ha hb=>by cases ha;dsimp only at hb;have:=(hgo hb).2;omega
      have ox:offS (fun i=>some i=ov3.ownBlock) (some xn):=fun a ha hb=>by cases ha;have:=(hgo hb).1;omega
      refine⟨o8 _,o8 _,ox,?_⟩
      refine Fn.mono (zik x ow r.owner (how.ext hE0x) ko.LB (by omega)) ?_
      rintro f1 z1 ⟨hf1,hz1⟩
      refine⟨.inr hz1.keep,?_⟩
      have q3y:=zaa hz1 q3x
      have g0y:=zaa hz1 g0x
      simp (disch:=first|omega|assumption|rfl) only[go_sem,s3,q3y,g0y,hv0i,Nat.add_zero,Nat.zero_add,Nat.zero_mul,zar,Int.toNat_zero]
      refine Fn.mono (zik z1 y0 n0 (hn0.ext (hE0x.trans hz1)) kn.LB (by omega)) ?_
      rintro f2 z2 ⟨hf2,hz2⟩
      refine⟨.inr hz2.keep,?_⟩
      obtain⟨af1,cf1,hf1e,_⟩:=id hf1.1
      obtain⟨af2,cf2,hf2e,_⟩:=id hf2.1
      obtain⟨S1,hS1⟩:∃S1:Nat→Prop,(fun b=>S b∨some b=ov3.ownBlock)=S1:=⟨_,rfl⟩
      have hRO5':=hRO5
      unfold RO at hRO5'
      rw[hS1]at hRO5'
      have hS1x:∀b,S1 b→b<x.heap.size:=fun b hb=>by
       rw[←hS1]at hb
       have hzv:=hEv5.size
       rcases hb with hb|hb
       ·have:=hS b hb;omega
       ·have:=(hRO5.ge hb).2;omega
      have hp2:PairAt S1 z2 [f1,f2] (zag r.owner,zag n0):=⟨f1,f2,rfl,(RowZ.of_base hf1 (Nat.zero_le _) hS1x).ext hz2,RowZ.of_base hf2 (Nat.zero_le _) (fun b hb=>by have:=hS1x b hb;have:=hz1.size;omega)⟩
      simp (disch:=first|omega|assumption|rfl) only[go_sem,s3]
      refine⟨by kernel_rfl,?_⟩
      rw[hf1e,hf2e,show bdV Tryz.prog 238 [(0,.slice af1 ((zag r.owner).map vs).length cf1),(1,.slice af2 ((zag n0).map vs).length cf2)]=some (.agg #[.slice af1 ((zag r.owner).map vs).length cf1,.slice af2 ((zag n0).map vs).length cf2]) from by kernel_rfl,←hf1e,←hf2e]
      simp (disch:=first|omega|assumption|rfl) only[go_sem,s3]
      refine zbC (C:=PairAt S1 z2) ⟨fun h=>h.len,fun h=>h.ones⟩ (l:=[f1,f2]) (a:=(zag r.owner,zag n0)) (by rfl) (by rfl) (by rfl) (by rfl) hp2 (by decide) ?_
      intro z3 hz3 hsz3 hO3
      refine⟨.inr hz3.keep,?_⟩
      simp (disch:=first|omega|assumption|rfl) only[go_sem,s3]
      have hxz:=(hx0.trans hz1).trans (hz2.trans hz3)
      have hO4:Owns 2 (PairAt S1 z3) w1.heap.size z3 238 ov3 xs3:=(Owns.ext hRO5' hxz).to fun _ _ h=>h.ext hxz
      refine zaQ (C:=PairAt S1 z3) ⟨fun h=>h.len,fun h=>h.ones⟩ hO4 (hO3.rows.to fun _ _ h=>h.ext hz3) (by rfl) (by rfl) (by rfl) (by rfl) (by rfl) (by rfl) (by decide) (vr0) (vr0) (by
       have:=congrArg List.length hbe
       simp only[List.length_append,List.length_cons,List.length_nil]at this ⊢
       omega) (by decide) (by have:=(hEv5.trans hxz).size;omega) ?_
      intro ov4 v7 hO7 hE7 hk7 hb7
      have hzw:=(hEv5.trans hxz).size
      have hE17:Ext w1 v7:=hE7 w1 (hEv5.trans hxz) (Nat.le_refl _)
      have hRO7:RO S w1.heap.size v7 ov4 (xs3++ [(zag r.owner,zag n0)]):=hO7.to fun _ _ h=>h.turn (hk7.mono fun b _ hb=>by rw[←hS1];exact .inr hb) (fun b hb=>by
       rw[←hS1]
       rcases hb with hb|hb
       ·exact .inl (.inl hb)
       ·rcases hb7 b hb with hb|hb
        ·exact .inl (.inr hb)
        ·exact .inr hb)
      refine⟨.inr hk7,?_⟩
      simp (disch:=first|omega|assumption|rfl) only[go_sem,s3]
      refine hK _ _ ?_;clear hK hgd;clear K;try clear gd
      repeat refine c_r ?_
      refine rg2 s27 hj1' ?_
      repeat refine c_r ?_
      exact⟨m3 - 1,by omega,rfl,j+1,ov4,_,by omega,vq0,(vq1 s26),(vq1 s25),(vq1 s20),(vq1 s19),(vq1 s18),(vq1 s13),(vq1 s12),(vq1 s11),vq0,hE17,hRO7,by rw[hbe];simp⟩
    ·have hro:renO r=Option.none:=by unfold renO;rw[if_neg e39]
     rw[List.filterMap_cons_none hro]at hbe
     repeat refine c_r ?_
     refine rgg [(4,35)] (an4 q2 Nat.add_zero Nat.zero_add (decide_eq_false e39)) ?_
     repeat refine c_r ?_
     refine wf trivial ?_
     repeat refine c_r ?_
     refine rg2 s27 hj1' ?_
     repeat refine c_r ?_
     exact⟨m3 - 1,by omega,rfl,j+1,ov3,xs3,by omega,vq0,(vq1 s26),(vq1 s25),(vq1 s20),(vq1 s19),(vq1 s18),(vq1 s13),(vq1 s12),(vq1 s11),(vq1 s3),hEv5,hRO5,hbe⟩
   ·intro hge3
    simp only[decide_eq_false_iff_not]at hge3
    rw[List.drop_of_length_le (by omega),List.filterMap_nil,List.nil_append,←hR2]at hbe
    repeat refine c_r ?_
    refine rg2 s20 hk1' ?_
    repeat refine c_r ?_
    exact⟨m2 - 1,by omega,rfl,k+1,ov3,xs3,by omega,vq0,(vq1 s19),(vq1 s18),(vq1 s13),(vq1 s12),(vq1 s11),(vq1 s3),hEv4,hRO,hbe⟩
  ·intro hge2
   simp only[decide_eq_false_iff_not]at hge2
   rw[List.drop_of_length_le (by omega),List.flatMap_nil,List.nil_append,←hR1]at hbe
   repeat refine c_r ?_
   refine rg2 s13 hi1' ?_
   repeat refine c_r ?_
   exact⟨m - 1,by omega,rfl,i+1,ov2,xs2,by omega,vq0,(vq1 s12),(vq1 s11),(vq1 s3),hEv2,hRO,hbe⟩
 ·intro hge
  simp only[decide_eq_false_iff_not]at hge
  rw[List.drop_of_length_le (by omega),List.flatMap_nil,List.append_nil]at hbe
  have hrows:Rows 2 (PairAt S v) v ov xs:=hRO.rows.to fun cs p h=>by
   obtain⟨a,b,e,h1,h2⟩:=h.ex
   exact⟨a,b,e,⟨h1.1,fun x n c hv=>⟨(h1.2 x n c hv).1,(h1.2 x n c hv).2.1,fun hb=>(h1.2 x n c hv).2.2 (.inl hb)⟩⟩,⟨h2.1,fun x n c hv=>⟨(h2.2 x n c hv).1,(h2.2 x n c hv).2.1,fun hb=>(h2.2 x n c hv).2.2 (.inl hb)⟩⟩⟩
  have hz1:=(hE1.trans hEv).size
  have hok:∀p∈xs,zbn p:=by rw[←hbe];exact zdG hG
  have hlen:xs.length≤1000000000:=by rw[←hbe];omega
  repeat refine c_r ?_
  refine rc s3 (FewPr_ok v v (Keep.refl _ _) hrows hok hlen) ?_
  rintro u w2 ⟨h1,h2,h3⟩
  obtain⟨LO,⟨au,cu,rfl,hcu,hgu⟩,hLl,hLat⟩:=h1
  refine rd trivial (P_pp.Clip_ok hcu) ?_
  rintro _ x0 ⟨rfl,h0⟩
  replace h0:=h0.symm
  subst h0
  refine re trivial ?_
  repeat refine c_r ?_
  refine rt0 Tryz.ntmps78 ?_
  refine⟨hE1.trans (hEv.trans h2),?_,fun a n c hv=>?_⟩
  ·unfold renN
   rw[hbe]
   exact⟨LO,⟨au,LO.length,rfl,Nat.le_refl _,hgu⟩,hLl,fun i h h'=>(hLat i h h').ext h2⟩
  ·cases hv
   obtain⟨k1,k2⟩:=h3 _ _ _ rfl
   exact⟨k2,fun hb=>by have:=hS _ hb;omega⟩
theorem zkG(w:World)(qv fv tv:Value)(q f:Nm)(ht:one tv=true)(hq:Row w qv (q.map vs))(hf:Row w fv (f.map vs))(mq:NmM q)(mf:NmM f)(hu:za0 q f=false):
  Fn Tryz.prog 134 #[qv,fv,tv] w (fun v w'=>Ext w w'∧v= .tuple #[.slice Option.none 0 0,vi 12]):=by
 obtain⟨aq,cq,hqv,_⟩:=id hq
 obtain⟨af,cf,hfv,_⟩:=id hf
 have bq:=mq.len
 have bf:=mf.len
 refine enter Tryz.func134 Tryz.ntmps134 rfl rfl ?_
 repeat refine c_r ?_
 refine rg0 ?_
 repeat refine c_r ?_
 refine rq ?_;intro gd K hgd hK
 try simp only[go_sem]
 refine Fn.mono (zdk _ _ _ _ _ hq hf mq.LB mf.LB (by omega) (by omega)) ?_
 rintro _ w1 ⟨rfl,hE1⟩
 try simp only[go_sem]
 refine hK _ _ ?_;clear hK hgd;clear K;try clear gd
 rw[hu]
 repeat refine c_r ?_
 refine wc0 ?_ ?_
 ·intro _
  repeat (first|refine c_r ?_|refine rg0 ?_)
  refine zaA (.inr rfl) Tryz.ntmps134 rfl (zal (v:= .slice Option.none 0 0) (vr0) (zal (v:=vi 12) (vr0) zaz)) ?_
  exact⟨hE1,rfl⟩
 ·intro h;cases h
theorem SwapO_ok(w:World)(qv fv tv:Value)(x:Nm)(r:zaI)(hq:Row w qv (x.map vs))(hf:Row w fv (r.2.map vs))(ht:Row w tv (r.1.map vs))(mq:NmM x)(hr:zbn r):
  Fn Tryz.prog 134 #[qv,fv,tv] w (fun v w'=>Ext w w'∧((∃y sv,za9 x r=some y∧v= .tuple #[sv,vi 0]∧Row w' sv (y.map vs)∧BlkB w.heap.size w' sv)∨∃e:Int,za9 x r=Option.none∧v= .tuple #[.slice Option.none 0 0,vi e]∧e≠0)):=by
 cases hu:za0 x r.2 with
 |false=>
  refine Fn.mono (zkG w qv fv tv x r.2 ht.isOne hq hf mq hr.b.m hu) ?_
  rintro _ w' ⟨hE,rfl⟩
  exact⟨hE,.inr ⟨12,by simp[za9,hu],rfl,by decide⟩⟩
 |true=>
  refine Fn.mono (NSwap_ok w qv fv tv x r.2 r.1 hq hf ht mq hr.b.m hr.a.m hu) ?_
  rintro v w' ⟨hE,h1,h2⟩
  by_cases hc:zaH (zcl x r.2 r.1)=0
  ·obtain⟨sv,rfl,h3,h4⟩:=h1 hc
   exact⟨hE,.inl ⟨_,sv,by simp[za9,hu,hc],rfl,h3,h4⟩⟩
  ·exact⟨hE,.inr ⟨7,by simp[za9,hu,hc],h2 hc,by decide⟩⟩
theorem zjp{ren:List zaI}{L:List Nm}{x:Nm}:zaB ren (L++ [x])=zaB ren L++ren.filterMap (za9 x):=by simp[zaB]
theorem zjo{ren:List zaI}{L:List Nm}{i j:Nat}(hi:i<L.length):∀y∈zaB ren (L.take i)++(ren.take j).filterMap (za9 L[i]),y∈zaB ren L:=by
 intro y hy
 unfold zaB
 rcases List.mem_append.1 hy with h|h
 ·unfold zaB at h
  obtain⟨x,hx,h⟩:=List.mem_flatMap.1 h
  exact List.mem_flatMap.2 ⟨x,List.mem_of_mem_take hx,h⟩
 ·obtain⟨r,hr,h⟩:=List.mem_filterMap.1 h
  exact List.mem_flatMap.2 ⟨_,List.getElem_mem hi,List.mem_filterMap.2 ⟨r,List.mem_of_mem_take hr,h⟩⟩
theorem back_ok{w0 w:World}{tb:Nat}{s:TS}{ps:List Nm}{rv:Value}{ren:List zaI}{most:Int}(hT:T_bool.TI w0 w tb s (putB ps))(hk:∀p∈ps,NmK p)(hm:((canN ps).length:Int)≤most)(hmost:most≤1000000)
  (hR:RenZ (tblk tb s) w rv ren) (hro:∀r∈ren,zbn r) (hrl:ren.length≤1000000000):
  Fn Tryz.prog 79 #[zav tb,rv,vi most] w (fun v w'=>(v=vi 0∧((canN (ps++zaB ren (canN ps))).length:Int)≤most∧∃s',T_bool.TI w0 w' tb s' (putB (ps++zaB ren (canN ps)))∧Keep (tblk tb s) w w'∧(∀b,tblk tb s' b→tblk tb s b∨w.heap.size≤b))∨
   (v=vi 11∧most<((canN (ps++zaB ren (canN ps))).length:Int)∧Ext w0 w')):=by
 obtain⟨ar,cr,hrv,_⟩:=hR.rows.open
 unfold zav
 refine enter Tryz.func79 Tryz.ntmps79 rfl rfl ?_
 repeat refine c_r ?_
 rw[hrv]
 refine rg0 ?_
 rw[←hrv]
 repeat refine c_r ?_
 refine rc trivial (zgV hT hk (by omega)) ?_
 rintro nv w1 ⟨hE1,hnv⟩
 have hZ:=hnv (tblk tb s) hT.lt
 obtain⟨L,hL⟩:∃L,canN ps=L:=⟨_,rfl⟩
 have hLk:∀x∈L,NmK x:=fun x hx=>inS_k hk (mem_canN.1 (by rw[hL];exact hx))
 have hLl:(L.length:Int)≤most:=by rw[←hL];exact hm
 rw[hL]at hZ ⊢
 have hnsl:∃a c,nv= .slice a L.length c:=by
  obtain⟨vals,⟨⟨a,c,e,_⟩,_⟩,h2,_⟩:=hZ
  exact⟨a,c,by rw[e,h2]⟩
 obtain⟨an,cn,hnve⟩:=hnsl
 rw[hnve]
 refine re trivial ?_
 rw[←hnve]
 repeat refine c_r ?_
 have hT1:=hT.on hE1
 have hR1:RenZ (tblk tb s) w1 rv ren:=hR.turn (hE1.mono fun _ _ h=>h.elim) (fun b hb=> .inl hb)
 refine zax (Q:=fun e σ' ds' v'=>ds'=[]∧((e= .exit 0∧((canN (ps++zaB ren L)).length:Int)≤most∧∃s',T_bool.TI w0 v' tb s' (putB (ps++zaB ren L))∧Keep (tblk tb s) w v'∧(∀b,tblk tb s' b→tblk tb s b∨w.heap.size≤b))∨
   (e= .ret∧σ' 6=vi 11∧most<((canN (ps++zaB ren L)).length:Int)∧Ext w0 v'))) ?_ ?_
 ·refine zai (fun m σ ds v=>ds=[]∧∃(i:Nat) (s':TS),i+m=L.length∧σ 16=vi i∧σ 15=vi L.length∧σ 14=nv∧σ 0=zav tb∧σ 1=rv∧σ 2=vi most∧T_bool.TI w0 v tb s' (putB (ps++zaB ren (L.take i)))∧Keep (tblk tb s) w v∧(∀b,tblk tb s' b→tblk tb s b∨w.heap.size≤b)∧
   NamesZ (tblk tb s') v nv L∧RenZ (tblk tb s') v rv ren∧((canN (ps++zaB ren (L.take i))).length:Int)≤most) L.length ?_ ?_
  ·exact⟨rfl,0,s,by omega,vr0,(vq1 hnve),vq0,vq0,vq0,vq0,by simpa [zaB] using hT1,hE1.mono (fun _ _ h=>h.elim),fun b hb=> .inl hb,hZ,hR1,by simpa [zaB,hL] using hLl⟩
  rintro m σ ds v ⟨rfl,i,s1,him,s16,s15,s14,s0,g1,g2,hT2,hkv,hsv,hZ2,hR2,hml⟩
  repeat refine c_r ?_
  refine rg2 s16 s15 ?_
  repeat refine c_r ?_
  refine wc0 ?_ ?_
  ·intro hlt
   simp only[decide_eq_true_eq]at hlt
   have hi:i<L.length:=by omega
   have hi0:(0:Int)≤(i:Int):=by omega
   have hi1':(i:Int)+1=((i+1:Nat):Int):=by push_cast;rfl
   have hx:=hLk _ (List.getElem_mem hi)
   obtain⟨x,hxe⟩:∃x,L[i]=x:=⟨_,rfl⟩
   obtain⟨xv,hcell,hxv⟩:∃xv,zah v (adr an i)=some xv∧RowN (tblk tb s1) v xv x:=by
    obtain⟨vals,⟨⟨a,c,e,_,hg⟩,_⟩,h2,h3⟩:=hZ2
    rw[hnve]at e
    have ea:an=a:=by injection e
    subst ea
    exact⟨vals[i]'(by omega),hg i (by omega),by rw[←hxe];exact h3 i (by omega) hi⟩
   rw[hxe]at hx
   obtain⟨xn,rfl⟩:=Option.isSome_iff_exists.1 (zad hcell)
   obtain⟨ax,cx,hxve,_⟩:=id hxv.1
   have hnve':=hnve
   repeat refine c_r ?_
   rw[hnve]at s14
   refine rg5 s16 s14 hi0 hlt hcell ?_
   repeat refine c_r ?_
   rw[hrv]at g1
   refine rg1 g1 ?_
   rw[←hrv]at g1
   repeat refine c_r ?_
   have hround:∀j,j≤ren.length→(canN (ps++(zaB ren (L.take i)++(ren.take j).filterMap (za9 x)))).length≤(canN (ps++zaB ren L)).length:=fun j _=>zfY fun g=>zdO fun p hp=>by
    rcases List.mem_append.1 hp with h|h
    ·exact List.mem_append_left _ h
    ·refine List.mem_append_right _ (zjo (j:=j) hi p ?_)
     rw[hxe];exact h
   refine zai (fun m σ ds v=>ds=[]∧∃(j:Nat) (s':TS),j+m=ren.length∧σ 22=vi j∧σ 21=vi ren.length∧σ 20=rv∧σ 8=xv∧σ 16=vi i∧σ 15=vi L.length∧σ 14=nv∧σ 0=zav tb∧σ 1=rv∧σ 2=vi most∧T_bool.TI w0 v tb s' (putB (ps++(zaB ren (L.take i)++(ren.take j).filterMap (za9 x))))∧Keep (tblk tb s) w v∧(∀b,tblk tb s' b→tblk tb s b∨w.heap.size≤b)∧
    NamesZ (tblk tb s') v nv L∧RenZ (tblk tb s') v rv ren∧RowN (tblk tb s') v xv x∧((canN (ps++(zaB ren (L.take i)++(ren.take j).filterMap (za9 x)))).length:Int)≤most) ren.length ?_ ?_
   ·exact⟨rfl,0,s1,by omega,vr0,(vq1 hrv),by rw[hrv];simp only[go_sem],vq0,(vq1 s16),(vq1 s15),(vq2 s14 hnve),(vq1 s0),(vq1 g1),(vq1 g2),by simpa using hT2,hkv,hsv,hZ2,hR2,hxv,by simpa using hml⟩
   clear s16 s15 s14 s0 g1 g2 hT2 hZ2 hR2 hxv hkv hsv hml hcell
   rintro m2 σ2 ds2 v2 ⟨rfl,j,s2,hjm,s22,s21,s20,s8,s16,s15,s14,s0,g1,g2,hT2,hkv,hsv,hZ2,hR2,hxv,hml⟩
   repeat refine c_r ?_
   refine rg2 s22 s21 ?_
   repeat refine c_r ?_
   refine wc0 ?_ ?_
   ·intro hlt2
    simp only[decide_eq_true_eq]at hlt2
    have hj:j<ren.length:=by omega
    have hj0:(0:Int)≤(j:Int):=by omega
    have hj1':(j:Int)+1=((j+1:Nat):Int):=by push_cast;rfl
    have hro1:=hro _ (List.getElem_mem hj)
    obtain⟨r,hre⟩:∃r,ren[j]=r:=⟨_,rfl⟩
    rw[hrv]at s20
    have hR2':=hR2.rows
    rw[hrv]at hR2'
    obtain⟨pcs,hpc,hP⟩:=hR2'.get hj
    rw[hre]at hP hro1
    obtain⟨p1,p2,rfl,hp1,hp2⟩:=hP.ex
    obtain⟨xr,rfl⟩:=Option.isSome_iff_exists.1 (zan hpc)
    obtain⟨xj,hxj⟩:∃xi,adr (some xr) (j*2)=some xi:=⟨_,rfl⟩
    rw[hxj]at hpc
    have htk:(ren.take (j+1)).filterMap (za9 x)=(ren.take j).filterMap (za9 x)++(za9 x r).toList:=by
     rw[zak hj,List.filterMap_append,hre]
     cases hso:za9 x r<;>simp[hso]
    repeat refine c_r ?_
    refine rq ?_;intro gd K hgd hK
    try simp (disch:=first|omega|assumption|rfl) only[go_sem,s22,s20,hj0,hlt2,hxj,hpc]
    refine za3 (P:=Tryz.prog) (l:=[p1,p2]) rfl (zaX hp1.1.isOne hp2.1.isOne) rfl rfl ?_
    intro v3 hE3 hs3 hB
    try simp only[go_sem]
    refine hK _ _ ?_;clear hK hgd;clear K;try clear gd
    obtain⟨cb,hcb⟩:∃b,v2.heap.size=b:=⟨_,rfl⟩
    rw[hcb]at hB hs3 ⊢
    have q0:zah v3 (some ⟨cb,0,Option.none⟩)=some p1:=zac hB rfl
    have q1:zah v3 (some ⟨cb,1,Option.none⟩)=some p2:=zac hB rfl
    repeat refine c_r ?_
    have hT3:=hT2.on hE3
    have hs3e:=hE3.size
    have hZ3:NamesZ (tblk tb s2) v3 nv L:=hZ2.ext hE3
    have hR3:RenZ (tblk tb s2) v3 rv ren:=hR2.turn (hE3.mono fun _ _ h=>h.elim) (fun b hb=> .inl hb)
    have hX3:RowN (tblk tb s2) v3 xv x:=hxv.ext hE3
    have hk3:Keep (tblk tb s) w v3:=hkv.trans (hE3.mono fun _ _ h=>h.elim)
    refine zax (Q:=fun e σ' ds' v'=>e= .normal∧ds'=[]∧σ' 22=vi j∧σ' 21=vi ren.length∧σ' 20=rv∧σ' 8=xv∧σ' 16=vi i∧σ' 15=vi L.length∧σ' 14=nv∧σ' 0=zav tb∧σ' 1=rv∧σ' 2=vi most∧Ext v3 v'∧∃(sv:Value) (e:Int),σ' 11=sv∧σ' 12=vi e∧
     ((e=0∧∃y,za9 x r=some y∧Row v' sv (y.map vs)∧BlkB v3.heap.size v' sv)∨(e≠0∧za9 x r=Option.none))) ?_ ?_
    ·refine rc (an7 s8 q0 q1 Nat.add_zero Nat.zero_add Int.toNat_zero (show(1:Int).toNat=1 from rfl)) (SwapO_ok v3 xv p2 p1 x r hX3.1 (hp2.1.ext hE3) (hp1.1.ext hE3) hx.m hro1) ?_
     rintro _ v4 ⟨hE4,(⟨y,sv,hsw,rfl,hy1,hy2⟩| ⟨e,hsw,rfl,he⟩)⟩
     ·refine re trivial ?_
      exact⟨rfl,rfl,(vq1 s22),(vq1 s21),(vq2 s20 hrv),(vq1 s8),(vq1 s16),(vq1 s15),(vq1 s14),(vq1 s0),(vq1 g1),(vq1 g2),hE4,sv,0,vq0,vr0,.inl ⟨rfl,y,hsw,hy1,hy2⟩⟩
     ·refine re trivial ?_
      exact⟨rfl,rfl,(vq1 s22),(vq1 s21),(vq2 s20 hrv),(vq1 s8),(vq1 s16),(vq1 s15),(vq1 s14),(vq1 s0),(vq1 g1),(vq1 g2),hE4,_,e,vr0,vq0,.inr ⟨he,hsw⟩⟩
    clear s22 s21 s20 s8 s16 s15 s14 s0 g1 g2
    rintro _ σ3 _ v4 ⟨rfl,rfl,s22,s21,s20,s8,s16,s15,s14,s0,g1,g2,hE4,sv,e,s11,s12,hcase⟩
    have hs4e:=hE4.size
    have hT4:=hT3.on hE4
    have hZ4:NamesZ (tblk tb s2) v4 nv L:=hZ3.ext hE4
    have hR4:RenZ (tblk tb s2) v4 rv ren:=hR3.turn (hE4.mono fun _ _ h=>h.elim) (fun b hb=> .inl hb)
    have hX4:RowN (tblk tb s2) v4 xv x:=hX3.ext hE4
    have hk4:Keep (tblk tb s) w v4:=hk3.trans (hE4.mono fun _ _ h=>h.elim)
    have hwv:=hkv.size
    repeat refine c_r ?_
    refine rg1 s12 ?_
    repeat refine c_r ?_
    refine zax (Q:=fun e' σ' ds' v'=>e'= .normal∧ds'=[]∧σ' 22=vi j∧σ' 21=vi ren.length∧σ' 20=rv∧σ' 8=xv∧σ' 16=vi i∧σ' 15=vi L.length∧σ' 14=nv∧σ' 0=zav tb∧σ' 1=rv∧σ' 2=vi most∧∃s5,T_bool.TI w0 v' tb s5 (putB (ps++(zaB ren (L.take i)++(ren.take (j+1)).filterMap (za9 x))))∧Keep (tblk tb s) w v'∧(∀b,tblk tb s5 b→tblk tb s b∨w.heap.size≤b)∧
     NamesZ (tblk tb s5) v' nv L∧RenZ (tblk tb s5) v' rv ren∧RowN (tblk tb s5) v' xv x) ?_ ?_
    ·refine zaO (t:=decide (e=0)) (vq0) ?_ ?_
     ·intro he
      simp only[decide_eq_true_eq]at he
      rcases hcase with ⟨_,y,hsw,hy1,hy2⟩| ⟨hne,_⟩
      ·have hyk:NmK y:=zaZ (zeq hsw)
       have hyz:RowZ 0 (tblk tb s2) v4 sv (y.map vs):=⟨hy1,fun a n c hv=>by
        obtain⟨k1,k2⟩:=hy2 a n c hv
        exact⟨Nat.zero_le _,k2,fun hb=>by have:=hT2.lt _ hb;omega⟩⟩
       unfold zav at s0
       repeat refine c_r ?_
       refine rc (an2 s0 s11) (zkE hT4 (T_bool.Still.of_row hyz) hyk) ?_
       rintro _ v5 ⟨s5,hT5,hk5,hs5⟩
       refine re trivial ?_
       repeat refine c_r ?_
       have h55:ps++(zaB ren (L.take i)++(ren.take j).filterMap (za9 x))++ [y]=ps++(zaB ren (L.take i)++(ren.take (j+1)).filterMap (za9 x)):=by rw[htk,hsw];simp
       rw[h55]at hT5
       refine⟨rfl,rfl,(vq1 s22),(vq1 s21),(vq1 s20),(vq1 s8),(vq1 s16),(vq1 s15),(vq1 s14),(vq1 s0),(vq1 g1),(vq1 g2),s5,hT5,?_,fun b hb=>?_,hZ4.turn hk5 hs5,hR4.turn hk5 hs5,hX4.turn hk5 hs5⟩
       ·have h6:=hk4.size
        have h7:=hk5.size
        refine⟨hk5.os.trans hk4.os,hk5.tape.trans hk4.tape,hk5.output.trans hk4.output,by omega,fun b hb hn=>?_,Nat.le_trans hk4.drawn hk5.drawn⟩
        exact(hk5.block b (by omega) (fun hc=>(hsv b hc).elim hn (by omega))).trans (hk4.block b hb hn)
       ·rcases hs5 b hb with h|h
        ·exact hsv b h
        ·exact .inr (by omega)
      ·exact absurd he hne
     ·intro hne
      simp only[decide_eq_false_iff_not]at hne
      rcases hcase with ⟨he,_⟩| ⟨_,hsw⟩
      ·exact absurd he hne
      ·repeat refine c_r ?_
       refine⟨rfl,rfl,(vq1 s22),(vq1 s21),(vq1 s20),(vq1 s8),(vq1 s16),(vq1 s15),(vq1 s14),(vq1 s0),(vq1 g1),(vq1 g2),s2,?_,hk4,hsv,hZ4,hR4,hX4⟩
       rw[htk,hsw]
       simpa using hT4
    clear s22 s21 s20 s8 s16 s15 s14 s0 g1 g2 hT3 hT4 hZ3 hZ4 hR3 hR4 hX3 hX4 hk3 hk4 s11 s12 hcase
    rintro _ σ4 _ v5 ⟨rfl,rfl,s22,s21,s20,s8,s16,s15,s14,s0,g1,g2,s5,hT5,hk5,hs5,hZ5,hR5,hX5⟩
    have hrd:=hround (j+1) (by omega)
    have hbig:(canN (ps++(zaB ren (L.take i)++(ren.take (j+1)).filterMap (za9 x)))).length≤1000000000:=by
     rw[htk]
     cases hso:za9 x r with
     |none=>simp only[Option.toList,List.append_nil];omega
     |some q=>
      have h1:=canN_add (ps:=ps++(zaB ren (L.take i)++(ren.take j).filterMap (za9 x))) (zaZ (zeq hso))
      simp only[Option.toList]
      rw[List.append_assoc,List.append_assoc]at h1
      omega
    unfold zav at s0
    repeat refine c_r ?_
    by_cases hgt:((canN (ps++(zaB ren (L.take i)++(ren.take (j+1)).filterMap (za9 x)))).length:Int)>most
    ·refine rc s0 (zdz hT5 (by omega)) ?_
     rintro _ v6 ⟨rfl,hE6⟩
     refine re (an2 g2 (decide_eq_true hgt)) ?_
     repeat refine c_r ?_
     refine wt trivial ?_
     repeat refine c_r ?_
     refine rg0 ?_
     repeat refine c_r ?_
     refine⟨rfl,.inr ⟨rfl,vr0,by omega,hT5.ext.trans hE6⟩⟩
    ·refine rc s0 (zdz hT5 (by omega)) ?_
     rintro _ v6 ⟨rfl,hE6⟩
     refine re (an2 g2 (decide_eq_false hgt)) ?_
     repeat refine c_r ?_
     refine wf trivial ?_
     repeat refine c_r ?_
     refine rg2 s22 hj1' ?_
     repeat refine c_r ?_
     have hE6':Keep (tblk tb s5) v5 v6:=hE6.mono fun _ _ h=>h.elim
     exact⟨m2 - 1,by omega,rfl,j+1,s5,by omega,vq0,(vq1 s21),(vq1 s20),(vq1 s8),(vq1 s16),(vq1 s15),(vq1 s14),(vq1 s0),(vq1 g1),(vq1 g2),hT5.on hE6,hk5.trans (hE6.mono fun _ _ h=>h.elim),hs5,hZ5.ext hE6,hR5.turn hE6' (fun b hb=> .inl hb),hX5.ext hE6,by omega⟩
   ·intro hge2
    simp only[decide_eq_false_iff_not]at hge2
    have hfull:ps++(zaB ren (L.take i)++(ren.take j).filterMap (za9 x))=ps++zaB ren (L.take (i+1)):=by
     rw[List.take_of_length_le (l:=ren) (by omega),zak hi,zjp,hxe]
    rw[hfull]at hT2 hml
    repeat refine c_r ?_
    refine rg2 s16 hi1' ?_
    repeat refine c_r ?_
    exact⟨m - 1,by omega,rfl,i+1,s2,by omega,vq0,(vq1 s15),(vq1 s14),(vq1 s0),(vq1 g1),(vq1 g2),hT2,hkv,hsv,hZ2,hR2,hml⟩
  ·intro hge
   simp only[decide_eq_false_iff_not]at hge
   rw[List.take_of_length_le (by omega)]at hT2 hml
   repeat refine c_r ?_
   exact⟨rfl,.inl ⟨rfl,hml,s1,hT2,hkv,hsv⟩⟩
 rintro e σ' ds' v' ⟨rfl,(⟨rfl,hml,s',hT',hk',hs'⟩| ⟨rfl,h6,hgt,hE'⟩)⟩
 ·repeat refine c_r ?_
  refine rg0 ?_
  repeat refine c_r ?_
  refine rt0 Tryz.ntmps79 ?_
  exact .inl ⟨rfl,hml,s',hT',hk',hs'⟩
 ·repeat refine c_r ?_
  refine rt1 h6 Tryz.ntmps79 ?_
  exact .inr ⟨rfl,hgt,hE'⟩
def zaV(N:NetL):List Nm:=zbi (renN N) N.rw.toNat (za2 N)
theorem zfA{ren:List zaI}{k:Nat}{ps:List Nm}:(canN ps).length≤(canN (zbi ren k ps)).length:=zfY fun _=>zdO fun _=>zd8
theorem zil{w0 w:World}(hE0:Ext w0 w){cs:List Value}{N:NetL}(hN:NetAt w0 cs N)(hG:zbb N){most:Int}(hmost:most≤1000000):
  Fn Tryz.prog 27 #[.agg cs.toArray,vi most] w (fun v w'=>Ext w w'∧((most<((canN (zaV N)).length:Int)∧v= .tuple #[.slice Option.none 0 0,vi 11])∨
   (((canN (zaV N)).length:Int)≤most∧∃lv,v= .tuple #[lv,vi 0]∧NamesAt w' lv (canN (zaV N))))):=by
 have hN0:=hN
 obtain⟨hv,rv,rfl,hh,hr⟩:=hN.ex
 obtain⟨ah,ch,hhv,_⟩:=hh.open
 obtain⟨ar,cr,hrv,_⟩:=id hr
 have hw:=hG.w
 have bk:=zgL hG
 have bm:=zkl bk (zib hG)
 refine enter Tryz.func27 Tryz.ntmps27 rfl rfl ?_
 repeat refine c_r ?_
 rw[hhv,hrv]
 refine rg0 ?_
 rw[←hhv,←hrv]
 repeat refine c_r ?_
 refine zaM ?_
 intro w1 hE1 hs1 hA
 have dA:=zay (n:=4) (l:=[hv,rv,vi N.rw,vi N.rf]) hA rfl
 repeat refine c_r ?_
 refine rc dA (base_ok (hE0.trans hE1) hN0 hG) ?_
 rintro _ w2 ⟨tb,s,rfl,hT⟩
 refine re trivial ?_
 repeat refine c_r ?_
 have hE2:=hT.ext
 unfold zav
 by_cases hgt:((canN (za2 N)).length:Int)>most
 ·refine rc trivial (zdz hT (by omega)) ?_
  rintro _ w3 ⟨rfl,hE3⟩
  refine re (decide_eq_true hgt) ?_
  repeat refine c_r ?_
  refine wt trivial ?_
  repeat refine c_r ?_
  refine rg0 ?_
  repeat refine c_r ?_
  refine zaA (.inr rfl) Tryz.ntmps27 rfl (zal (v:= .slice Option.none 0 0) (vr0) (zal (v:=vi 11) (vr0) zaz)) ?_
  refine⟨hE1.trans (hE2.trans hE3),.inl ⟨?_,rfl⟩⟩
  have:=zfA (ren:=renN N) (k:=N.rw.toNat) (ps:=za2 N)
  unfold zaV;omega
 refine rc trivial (zdz hT (by omega)) ?_
 rintro _ w3 ⟨rfl,hE3⟩
 refine re (decide_eq_false hgt) ?_
 repeat refine c_r ?_
 refine wf trivial ?_
 have hE13:=hE2.trans hE3
 have hT3:=hT.on hE3
 have dA3:=zay (n:=4) (l:=[hv,rv,vi N.rw,vi N.rf]) (Ext.at hE13 hA) rfl
 repeat refine c_r ?_
 refine rc dA3 (ziZ (S:=tblk tb s) ((hE0.trans hE1).trans hE13) (fun b hb=>hT3.lt b hb) hN0 hG) ?_
 rintro rnv w4 ⟨hE4,hR4⟩
 refine re trivial ?_
 have hT4:=hT3.on hE4
 have hA4:w4.heap[w.heap.size]? =some (.cells #[hv,rv,vi N.rw,vi N.rf] 25 (0,0)):=Ext.at (hE13.trans hE4) hA
 have p2:zah w4 (some ⟨w.heap.size,2,Option.none⟩)=some (vi N.rw):=zac hA4 rfl
 have hro:∀r∈renN N,zbn r:=zfK (zdG hG)
 have hrl:(renN N).length≤1000000000:=by
  have h1:=zc6 hG
  have h2:=zfJ (l:=zce N)
  unfold renN;omega
 obtain⟨ren,hren⟩:∃r,renN N=r:=⟨_,rfl⟩
 obtain⟨k0,hk0⟩:∃k:Nat,N.rw=(k:Int):=⟨N.rw.toNat,by omega⟩
 have hF:zaV N=zbi ren k0 (za2 N):=by unfold zaV;rw[hren,hk0];rfl
 rw[hren]at hR4 hro hrl
 rw[hF]
 rw[hk0]at p2 hw
 obtain⟨F,hFe⟩:∃F,zbi ren k0 (za2 N)=F:=⟨_,rfl⟩
 rw[hFe]
 have hFk:∀p∈F,NmK p:=by rw[←hFe];exact zhp bk
 repeat refine c_r ?_
 refine rg2 p2 Nat.zero_add ?_
 repeat refine c_r ?_
 refine zax (Q:=fun e σ' ds' v'=>ds'=[]∧Ext w1 v'∧((e= .exit 0∧σ' 6=zav tb∧((canN F).length:Int)≤most∧∃s',T_bool.TI w1 v' tb s' (putB F))∨(e= .ret∧σ' 4= .slice Option.none 0 0∧σ' 5=vi 11∧most<((canN F).length:Int)))) ?_ ?_
 ·refine zai (fun m σ ds v=>ds=[]∧∃(i:Nat) (qs:List Nm) (s':TS),i+m=k0∧σ 20=vi i∧σ 19=vi k0∧σ 1=vi most∧σ 6=zav tb∧σ 7=rnv∧T_bool.TI w1 v tb s' (putB qs)∧RenZ (tblk tb s') v rnv ren∧((canN qs).length:Int)≤most∧(∀p∈qs,NmK p)∧zbi ren (k0 - i) qs=F) k0 ?_ ?_
  ·exact⟨rfl,0,za2 N,s,by omega,vr0,vq0,vq0,vq0,vq0,hT4,hR4,by omega,bk,hFe⟩
  rintro m σ ds v ⟨rfl,i,qs,s1,him,s20,s19,s1',s6,s7,hTv,hRv,hml,hqk,hcl⟩
  unfold zav at s6
  repeat refine c_r ?_
  refine rg2 s20 s19 ?_
  repeat refine c_r ?_
  refine wc0 ?_ ?_
  ·intro hlt
   simp only[decide_eq_true_eq]at hlt
   have hi:i<k0:=by omega
   have hi1':(i:Int)+1=((i+1:Nat):Int):=by push_cast;rfl
   obtain⟨j,hj⟩:∃j,k0 - i=j+1:=⟨k0 - i - 1,by omega⟩
   rw[hj]at hcl
   have hF1:(canN (qs++zaB ren (canN qs))).length≤(canN F).length:=by
    rw[←hcl]
    unfold zbi
    split
    ·exact Nat.le_refl _
    ·exact zfA
   have hqk2:∀p∈qs++zaB ren (canN qs),NmK p:=fun p hp=>by
    rcases List.mem_append.1 hp with hp|hp
    ·exact hqk p hp
    ·exact zaZ (zfH hp)
   repeat refine c_r ?_
   refine rc s6 (zdz hTv (by omega)) ?_
   rintro _ v1 ⟨rfl,hE5⟩
   refine re trivial ?_
   have hTv1:=hTv.on hE5
   have hRv1:RenZ (tblk tb s1) v1 rnv ren:=hRv.turn (hE5.mono fun _ _ h=>h.elim) (fun b hb=> .inl hb)
   repeat refine c_r ?_
   refine rc (an3 s6 s7 s1') (back_ok hTv1 hqk hml hmost hRv1 hro hrl) ?_
   rintro _ v2 (⟨rfl,hm2,s2,hT2,hk2,hs2⟩| ⟨rfl,hm2,hE6⟩)
   ·refine re trivial ?_
    have hRv2:=hRv1.turn hk2 hs2
    repeat refine c_r ?_
    refine rg0 ?_
    repeat refine c_r ?_
    refine wf trivial ?_
    repeat refine c_r ?_
    by_cases heq:(canN (qs++zaB ren (canN qs))).length=(canN qs).length
    ·have hFq:qs++zaB ren (canN qs)=F:=by rw[←hcl];unfold zbi;rw[if_pos heq]
     refine rc s6 (zdz hT2 (by omega)) ?_
     rintro _ v3 ⟨rfl,hE7⟩
     refine re (decide_eq_true (show((canN (qs++zaB ren (canN qs))).length:Int)=((canN qs).length:Int) by omega)) ?_
     repeat refine c_r ?_
     refine wt trivial ?_
     repeat refine c_r ?_
     rw[hFq]at hT2 hm2
     exact⟨rfl,hT2.ext.trans hE7,.inl ⟨rfl,(vq1 s6),hm2,s2,hT2.on hE7⟩⟩
    ·have hFq:zbi ren j (qs++zaB ren (canN qs))=F:=by
      rw[←hcl]
      conv=>rhs;unfold zbi
      rw[if_neg heq]
     refine rc s6 (zdz hT2 (by omega)) ?_
     rintro _ v3 ⟨rfl,hE7⟩
     refine re (decide_eq_false (show¬((canN (qs++zaB ren (canN qs))).length:Int)=((canN qs).length:Int) by omega)) ?_
     repeat refine c_r ?_
     refine wf trivial ?_
     repeat refine c_r ?_
     refine rg2 s20 hi1' ?_
     repeat refine c_r ?_
     exact⟨m - 1,by omega,rfl,i+1,_,s2,by omega,vq0,(vq1 s19),(vq1 s1'),(vq1 s6),(vq1 s7),hT2.on hE7,hRv2.turn (hE7.mono fun _ _ h=>h.elim) (fun b hb=> .inl hb),hm2,hqk2,by rw[show k0 - (i+1)=j by omega];exact hFq⟩
   ·refine re trivial ?_
    repeat refine c_r ?_
    refine rg0 ?_
    repeat refine c_r ?_
    refine wt trivial ?_
    repeat refine c_r ?_
    refine rg0 ?_
    repeat refine c_r ?_
    exact⟨rfl,hE6,.inr ⟨rfl,vr0,vr0,by omega⟩⟩
  ·intro hge
   simp only[decide_eq_false_iff_not]at hge
   have hFq:qs=F:=by rw[←hcl,show k0 - i=0 by omega];rfl
   rw[hFq]at hTv hml
   repeat refine c_r ?_
   exact⟨rfl,hTv.ext,.inl ⟨rfl,(vq1 s6),hml,s1,hTv⟩⟩
 rintro e σ' ds' v' ⟨rfl,hEv,(⟨rfl,s6,hml,s',hT'⟩| ⟨rfl,h4,h5,hgt2⟩)⟩
 ·unfold zav at s6
  repeat refine c_r ?_
  refine rc s6 (zgV hT' hFk (by omega)) ?_
  rintro lv w9 ⟨hE9,hlv⟩
  refine re trivial ?_
  repeat refine c_r ?_
  refine zaA (.inr rfl) Tryz.ntmps27 rfl (zal (v:=lv) (vq0) (zal (v:=vi 0) (vr0) zaz)) ?_
  exact⟨hE1.trans (hEv.trans hE9),.inr ⟨hml,lv,rfl,(hlv NoS (fun _ h=>h.elim)).at⟩⟩
 ·repeat refine c_r ?_
  refine zaA (.inr rfl) Tryz.ntmps27 rfl (zal (v:= .slice Option.none 0 0) ((vq1 h4)) (zal (v:=vi 11) ((vq1 h5)) zaz)) ?_
  exact⟨hE1.trans hEv,.inl ⟨hgt2,rfl⟩⟩
theorem zfF{a b q:Nm}(h1:a<:+q)(h2:b<:+q)(h:a.length=b.length):a=b:=
 (List.suffix_of_suffix_length_le h1 h2 (by omega)).eq_of_length h
theorem zg1{a q:Nm}:a<:+q↔a.length≤q.length∧q.drop (q.length - a.length)=a:=by
 constructor
 ·rintro⟨p,rfl⟩
  refine⟨by simp,by simp⟩
 ·rintro⟨_,h⟩
  rw[←h];exact List.drop_suffix _ _
theorem zdB{q x:Nm}(hx:zag x=x):za0 q x=true↔x<:+zag q:=by
 unfold za0
 rw[Bool.and_eq_true,decide_eq_true_eq,decide_eq_true_eq,hx,zbK,zg1,zau]
theorem zjW{q x:Nm}(hx:zag x=x):(decide (x.length=q.length+1) && za0 x q)=true↔∃l,x=l::zag q:=by
 unfold za0
 rw[Bool.and_eq_true,Bool.and_eq_true,decide_eq_true_eq,decide_eq_true_eq,decide_eq_true_eq,zbK,hx]
 constructor
 ·rintro⟨h1,_,h3⟩
  cases x with
  |nil=>simp at h1
  |cons l t=>
   simp only[List.length_cons]at h1 h3
   rw[show t.length+1 - q.length=1 from by omega]at h3
   exact⟨l,by rw[←h3];rfl⟩
 ·rintro⟨l,rfl⟩
  refine⟨by simp[zau],by simp[zau],?_⟩
  simp only[List.length_cons,zau]
  rw[show q.length+1 - q.length=1 from by omega];rfl
theorem zhf(L:List Nm)(x Q:Nm):(∀l,x=l::Q→zaS (L++ [x]) Q=zaS L Q++ [l])∧((¬∃l,x=l::Q)→zaS (L++ [x]) Q=zaS L Q):=by
 cases x with
 |nil=>
  refine⟨fun l h=>(by cases h),fun _=>?_⟩
  unfold zaS
  rw[List.filterMap_append];simp
 |cons a t=>
  rw[zda]
  refine⟨fun l h=>(by cases h;simp),fun h=>?_⟩
  rw[if_neg]
  rintro rfl
  exact h ⟨a,rfl⟩
theorem ziE(L:List Nm)(Q:Nm):(zaS L Q).length≤L.length:=by unfold zaS;exact List.length_filterMap_le _ _
structure ClsL where
 name:Nm
 other:Bool
def clsN(L:List Nm):List ClsL:=L.flatMap fun x=>[⟨x,false⟩,⟨x,true⟩]
theorem zcE{L:List Nm}{c:ClsL}:c∈clsN L↔c.name∈L:=by
 obtain⟨n,o⟩:=c
 simp only[clsN,List.mem_flatMap,List.mem_cons,List.not_mem_nil,or_false,ClsL.mk.injEq]
 constructor
 ·rintro⟨x,hx,(⟨rfl,_⟩| ⟨rfl,_⟩)⟩<;>exact hx
 ·intro h;cases o
  ·exact⟨n,h,.inl ⟨rfl,rfl⟩⟩
  ·exact⟨n,h,.inr ⟨rfl,rfl⟩⟩
theorem zh8{L:List Nm}:(clsN L).length=2*L.length:=by
 unfold clsN
 induction L with
 |nil=>rfl
 |cons a l ih=>rw[List.flatMap_cons,List.length_append,ih];simp;omega
def zgs(st:Bool)(a b:Nat):Bool:=match st with
 |true=>decide (a<b)
 |false=>decide (a≤b)
theorem longB_t{st:Bool}{a b:Nat}(h:zgs st a b=true):a≤b:=by
 cases st<;>simp[zgs]at h<;>omega
theorem longB_f{st:Bool}{a b:Nat}(h:zgs st a b=false):b≤a:=by
 cases st<;>simp[zgs]at h<;>omega
def othC(st:Bool)(q:Nm)(c:ClsL):Bool:=match st with
 |true=>decide (c.name.length<q.length)
 |false=>c.other
def ofP(st:Bool)(q:Nm)(b:ClsL×Bool)(c:ClsL):ClsL×Bool:=
 if (za0 q c.name && (!b.2||zgs st b.1.name.length c.name.length))=true then(⟨c.name,othC st q c⟩,true) else b
def ofF(st:Bool)(C:List ClsL)(q:Nm):ClsL×Bool:=C.foldl (ofP st q) (⟨[],false⟩,false)
structure Lng(L:List Nm)(q x:Nm):Prop where
 mem:x∈L
 un:za0 q x=true
 max:∀y∈L,za0 q y=true→y.length≤x.length
theorem zhc{st:Bool}{q:Nm}:∀{C:List ClsL} {b:ClsL×Bool},(b.2=true→za0 q b.1.name=true∧(st=true→b.1.other=decide (b.1.name.length<q.length)))→
  ((C.foldl (ofP st q) b).2=true→za0 q (C.foldl (ofP st q) b).1.name=true∧(st=true→(C.foldl (ofP st q) b).1.other=decide ((C.foldl (ofP st q) b).1.name.length<q.length)))∧
  (b.2=true→(C.foldl (ofP st q) b).2=true∧b.1.name.length≤(C.foldl (ofP st q) b).1.name.length)∧
  (∀c∈C,za0 q c.name=true→(C.foldl (ofP st q) b).2=true∧c.name.length≤(C.foldl (ofP st q) b).1.name.length)∧
  ((C.foldl (ofP st q) b).1=b.1∨∃c∈C,(C.foldl (ofP st q) b).1.name=c.name)
 | [],b,h=>⟨h,fun h=>⟨h,Nat.le_refl _⟩,(fun c hc=>by cases hc),.inl rfl⟩
 |c::C,b,h=>by
  simp only[List.foldl_cons]
  have h':(ofP st q b c).2=true→za0 q (ofP st q b c).1.name=true∧(st=true→(ofP st q b c).1.other=decide ((ofP st q b c).1.name.length<q.length)):=by
   unfold ofP
   split
   ·rename_i hc;intro _;rw[Bool.and_eq_true]at hc;exact⟨hc.1,fun hs=>by rw[hs];rfl⟩
   ·exact h
  have hb:b.2=true→(ofP st q b c).2=true∧b.1.name.length≤(ofP st q b c).1.name.length:=by
   intro hb
   unfold ofP
   split
   ·rename_i hc
    refine⟨rfl,?_⟩
    rw[hb,Bool.not_true,Bool.false_or,Bool.and_eq_true]at hc
    exact longB_t hc.2
   ·exact⟨hb,Nat.le_refl _⟩
  have hc:za0 q c.name=true→(ofP st q b c).2=true∧c.name.length≤(ofP st q b c).1.name.length:=by
   intro hu
   unfold ofP
   split
   ·exact⟨rfl,Nat.le_refl _⟩
   ·rename_i hn
    cases hb2:b.2 with
    |false=>exact absurd (by rw[hu,hb2];rfl) hn
    |true=>
     refine⟨rfl,?_⟩
     rw[hu,hb2,Bool.not_true,Bool.false_or,Bool.true_and,Bool.not_eq_true]at hn
     exact longB_f hn
  obtain⟨i1,i2,i3,i4⟩:=zhc (C:=C) h'
  refine⟨i1,fun h=>?_,fun d hd hu=>?_,?_⟩
  ·obtain⟨a1,a2⟩:=hb h
   obtain⟨b1,b2⟩:=i2 a1
   exact⟨b1,by omega⟩
  ·rcases List.mem_cons.1 hd with rfl|hd
   ·obtain⟨a1,a2⟩:=hc hu
    obtain⟨b1,b2⟩:=i2 a1
    exact⟨b1,by omega⟩
   ·exact i3 d hd hu
  ·rcases i4 with i4| ⟨d,hd,i4⟩
   ·rw[i4]
    unfold ofP
    split
    ·exact .inr ⟨c,by simp,rfl⟩
    ·exact .inl rfl
   ·exact .inr ⟨d,List.mem_cons_of_mem _ hd,i4⟩
theorem zi5(q:Nm):za0 q []=true:=by unfold za0;simp[zag]
theorem of_lng{st:Bool}{L:List Nm}{q:Nm}(h:[]∈L):(ofF st (clsN L) q).2=true∧Lng L q (ofF st (clsN L) q).1.name∧(st=true→(ofF st (clsN L) q).1.other=decide ((ofF st (clsN L) q).1.name.length<q.length)):=by
 obtain⟨i1,i2,i3,i4⟩:=zhc (st:=st) (q:=q) (C:=clsN L) (b:=(⟨[],false⟩,false)) (fun h=>by cases h)
 have hm:∀x∈L,(⟨x,false⟩:ClsL)∈clsN L:=fun x hx=>zcE.2 hx
 obtain⟨j1,j2⟩:=i3 _ (hm _ h) (zi5 q)
 refine⟨j1,⟨?_,(i1 j1).1,fun y hy hu=>(i3 _ (hm y hy) hu).2⟩,(i1 j1).2⟩
 rcases i4 with i4| ⟨c,hc,i4⟩
 ·have:(ofF st (clsN L) q).1=⟨[],false⟩:=i4
  rw[this];exact h
 ·have:(ofF st (clsN L) q).1.name=c.name:=i4
  rw[this];exact zcE.1 hc
theorem Lng.eq{L:List Nm}{q x y:Nm}(hf:∀x∈L,zag x=x)(h:Lng L q x)(k:Lng L q y):x=y:=
 zfF ((zdB (hf x h.mem)).1 h.un) ((zdB (hf y k.mem)).1 k.un) (Nat.le_antisymm (k.max _ h.mem h.un) (h.max _ k.mem k.un))
theorem Lng.self{L:List Nm}{q:Nm}(h:zag q∈L):Lng L q (zag q):=⟨h,by rw[zga];exact zio q,fun y _ hu=>by rw[zau];exact zdA hu⟩
/-! labels that nobody need have -/
def digs:List UInt8:=[48,49,50,51,52,53,54,55,56,57,97,98,99,100,101,102,103,104,105,106,107,108,109,110,111,112,113,114,115,116,117,118,119,120,121,122]
def wordsL:List Lab:=digs.map (fun c=>[c])++digs.flatMap (fun c=>digs.map fun d=>[c,d])++ [[48,48,48]]
def zbc(kids:List Lab):Lab:=(wordsL.find? fun w=>!(kids.any fun k=>decide (zaF k=w))).getD []
theorem zfW:∀c∈digs,zdw c=c:=by decide
theorem zin{w:Lab}(h:w∈wordsL):zaF w=w∧w≠ []:=by
 unfold wordsL at h
 simp only[List.mem_append,List.mem_map,List.mem_flatMap,List.mem_singleton]at h
 rcases h with (⟨c,hc,rfl⟩| ⟨c,hc,d,hd,rfl⟩)|rfl
 ·exact⟨by simp[zaF,zfW c hc],by simp⟩
 ·exact⟨by simp[zaF,zfW c hc,zfW d hd],by simp⟩
 ·exact⟨by decide,by simp⟩
theorem zev{kids:List Lab}(h:zbc kids≠ []):zaF (zbc kids)=zbc kids∧∀k∈kids,zaF k≠zbc kids:=by
 unfold zbc at h ⊢
 cases hf:wordsL.find? fun w=>!(kids.any fun k=>decide (zaF k=w)) with
 |none=>rw[hf]at h;exact absurd rfl h
 |some w=>
  have h1:=List.mem_of_find?_eq_some hf
  have h2:=List.find?_some hf
  refine⟨(zin h1).1,fun k hk e=>?_⟩
  simp only[Option.getD_some]at e
  simp only[Bool.not_eq_true',List.any_eq_false,decide_eq_true_eq]at h2
  exact h2 k hk e
/-! what stands for a class -/
def kidC(C:List ClsL)(z:Nm):List Lab:=zaS (C.map fun c=>c.name) (zag z)
def repC(C:List ClsL)(c:ClsL):Option Nm:=
 if c.other=true then(if zbc (kidC C c.name)=[] then Option.none else if zaH (zbc (kidC C c.name)::c.name)=0 then some (zbc (kidC C c.name)::c.name) else Option.none) else some c.name
theorem rep_of{L:List Nm}{c:ClsL}{r:Nm}(h0:[]∈L)(hf:∀x∈L,zag x=x)(hc:c∈clsN L)(h:repC (clsN L) c=some r):(ofF true (clsN L) r).1.name=c.name∧(ofF true (clsN L) r).1.other=c.other:=by
 have hm:=zcE.1 hc
 have hfc:=hf _ hm
 obtain⟨a1,a2,a3⟩:=of_lng (st:=true) (q:=r) h0
 have a3:=a3 rfl
 unfold repC at h
 split at h
 ·rename_i ho
  split at h
  ·cases h
  ·rename_i hne
   split at h
   ·obtain⟨g1,g2⟩:=zev hne
    obtain⟨f,hfe⟩:∃f,zbc (kidC (clsN L) c.name)=f:=⟨_,rfl⟩
    rw[hfe]at h hne g1 g2
    have hr:f::c.name=r:=Option.some.inj h
    have hrf:zag r=r:=by rw[←hr];simp only[zag,List.map_cons,g1];rw[show c.name.map zaF=c.name from hfc]
    have hk:Lng L r c.name:=by
     refine⟨hm,(zdB hfc).2 (by rw[hrf,←hr];exact List.suffix_cons ..),fun y hy hu=>?_⟩
     have hl:=zdA hu
     rw[←hr,List.length_cons]at hl
     have hlt:¬y.length=c.name.length+1:=fun hl2=>by
      have hs:=(zdB (hf y hy)).1 hu
      rw[hrf]at hs
      have hyr:y=r:=hs.eq_of_length (by rw[hl2,←hr];rfl)
      refine g2 f ?_ g1
      unfold kidC
      rw[hfc]
      unfold zaS
      refine List.mem_filterMap.2 ⟨y,List.mem_map.2 ⟨⟨y,false⟩,zcE.2 hy,rfl⟩,?_⟩
      rw[hyr,←hr];simp
     omega
    have e:=a2.eq hf hk
    rw[e]at a3
    exact⟨e,by rw[a3,ho,←hr];simp⟩
   ·cases h
 ·rename_i ho
  have hr:c.name=r:=Option.some.inj h
  have hk:Lng L r c.name:=by
   subst hr
   have:=Lng.self (L:=L) (q:=c.name) (by rw[hfc];exact hm)
   rwa [hfc]at this
  have e:=a2.eq hf hk
  rw[e,←hr]at a3
  refine⟨e,?_⟩
  rw[←hr]at e ⊢
  rw[a3]
  cases hco:c.other with
  |true=>exact absurd hco ho
  |false=>simp
section
variable {P : Program} {d : Option Tmp} {ty : TypeId} {ps : String} {af : Array Edge} {g : Option (Nat × Bool)} {ρ : Operand → Value} {w : World} {K : Value → World → Prop}
theorem zd7(b:UInt8)(hb:b.toNat<128):Utf8.encode (b.toNat:Int)=⟨#[b]⟩:=by
 have hv:Utf8.valid (b.toNat:Int)=true:=by simp[Utf8.valid];omega
 unfold Utf8.encode
 simp only[hv,if_true,Int.toNat_natCast]
 rw[if_pos hb]
 simp
theorem conv_i2s{s t:TypeId}{k:IntKind}{x:Operand}{b:UInt8}(hs:tyU P s=some (.int k))(hd:tyU P t=some .string)(hx:ρ x= .int .i32 b.toNat)(hb:b.toNat<128)(h:K (vs [b]) w):
  optK (cvD (some (.int k)) (some .string) (.int .i32 b.toNat)) w K (opW P ⟨d,.convert s t x,ty,ps,af,g⟩ ρ w K):=by
 show opR P K ((do pure (.value (←convert s t (ρ x))):Sem Next).run P w)
 rw[hx]
 refine zaK (v:=vs [b]) (w':=w) ?_ h
 have:=run_convert_int_string (P:=P) w s t .i32 (b.toNat:Int) (by rw[show P.underlying s=_ from hs];rfl) hd
 rw[zd7 b hb]at this
 exact this
theorem conv_r2s{s t e:TypeId}{x:Operand}{a:Addr}{c:Nat}{b b':UInt8}(hs:tyU P s=some (.slice e))(hd:tyU P t=some .string)(he:tyU P e=some (.int .i32))(hx:ρ x= .slice (some a) 2 c)(hb:b.toNat<128)(hb':b'.toNat<128)
  (h0:zah w (adr (some a) 0)=some (.int .i32 b.toNat)) (h1:zah w (adr (some a) 1)=some (.int .i32 b'.toNat)) (h:K (vs [b,b']) w):
  optK (cvD (some (.slice e)) (some .string) (.slice (some a) 2 c)) w K (opW P ⟨d,.convert s t x,ty,ps,af,g⟩ ρ w K):=by
 show opR P K ((do pure (.value (←convert s t (ρ x))):Sem Next).run P w)
 rw[hx]
 refine zaK (v:=vs [b,b']) (w':=w) ?_ h
 have:=run_convert_runes (P:=P) w s t e a 2 c [(b.toNat:Int),(b'.toNat:Int)] (by simp) hs he hd (fun j hj=>by
  match j,hj with
  |0,_=>simpa [zah,adr] using h0
  |1,_=>simpa [zah,adr] using h1)
 have e2:runesBytes ([(b.toNat:Int),(b'.toNat:Int)].take 2)=⟨#[b,b']⟩:=by
  simp only[List.take_succ_cons,List.take_zero,runesBytes,List.foldl_cons,List.foldl_nil,zd7 b hb,zd7 b' hb']
  rfl
 rw[e2]at this
 exact this
def StrIt(w:World)(r:Nat)(s:List UInt8)(pos:Nat):Prop:=w.heap[r]? =some (.stringIter ⟨s.toArray⟩ pos)
theorem StrIt.block{w x:World}{r pos:Nat}{s:List UInt8}(h:StrIt w r s pos)(hk:x.heap[r]? =w.heap[r]?):StrIt x r s pos:=hk.trans h
theorem StrIt.lt{w:World}{r pos:Nat}{s:List UInt8}(h:StrIt w r s pos):r<w.heap.size:=(Array.getElem?_eq_some_iff.1 h).1
theorem zeP{t:TypeId}{x:Operand}{s:List UInt8}(ht:tyU P t=some .string)(hx:ρ x=vs s)
  (h:∀w',StrIt w' w.heap.size s 0→Ext w w'→w'.heap.size=w.heap.size+1→K (.pointer (some ⟨w.heap.size,0,Option.none⟩)) w'):
  opW P ⟨d,.range t x,ty,ps,af,g⟩ ρ w K:=by
 show opR P K _
 refine zaK (s:=Instr.range t (ρ x)) (by rw[hx];exact run_range_string w t _ ht) (h _ (World.iter_heap w _ 0) ?_ ?_)
 ·exact Ext.alloc w _
 ·unfold World.iter;simp
theorem zgf{r pos:Nat}{s:ByteArray}(hr:w.heap[r]? =some (.stringIter s pos))(ht:pos<s.size):
  (Instr.next (.pointer (some ⟨r,0,Option.none⟩)) true ty).run P w= .ok (.tuple #[.bool true,.int .i64 pos,.int .i32 (Utf8.decode s pos).1]) (w.putObj r (.stringIter s (pos+(Utf8.decode s pos).2))):=by
 simp only[Instr.next,getObj,setObj,Sem.run_bind,Sem.run,hr,Result.andThen,ht,if_true]
 simp[goInt,World.putObj]
theorem zc7{x:Operand}{r pos:Nat}{s:List UInt8}(hx:ρ x= .pointer (some ⟨r,0,Option.none⟩))(hr:StrIt w r s pos)(ha:∀c∈s,c.toNat<128)
  (h1:s.length≤pos→K (.tuple #[.bool false]) w)
  (h2:∀(h:pos<s.length) w',StrIt w' r s (pos+1)→Keep (fun b=>b=r) w w'→w'.heap.size=w.heap.size→K (.tuple #[.bool true,vi pos,.int .i32 s[pos].toNat]) w'):
  opW P ⟨d,.next x true,ty,ps,af,g⟩ ρ w K:=by
 show opR P K _
 by_cases h:pos<s.length
 ·have hd:=decode_ascii ⟨s.toArray⟩ pos h (ha _ (List.getElem_mem h))
  have hrun:=zgf (P:=P) (ty:=ty) hr h
  rw[hd]at hrun
  have hlt:=(Array.getElem?_eq_some_iff.1 hr).1
  refine zaK (s:=Instr.next (ρ x) true ty) (by rw[hx];exact hrun) (h2 h _ ?_ (zaD rfl) (by simp))
  exact World.putObj_heap_same hlt
 ·refine zaK (s:=Instr.next (ρ x) true ty) (v:= .tuple #[.bool false]) (w':=w) ?_ (h1 (by omega))
  rw[hx]
  have:¬pos<(⟨s.toArray⟩:ByteArray).size:=h
  simp only[Instr.next,getObj,Sem.run_bind,Sem.run,show w.heap[r]? =some (.stringIter ⟨s.toArray⟩ pos) from hr,Result.andThen,this,if_false]
  rfl
end
def IterN{α:Type}(P:Program)(g:FuncId)(cap:Array Value)(W0:World)(n0:Nat)(C:Nat→Prop)(xs:List α)(enc:α→World→Array Value→Prop):Prop:=
 ∀(l:Nat) (J Jx:List α→World→Prop) (W:World),Ext W0 W→n0≤W.heap.size→
  (∀pre A B,J pre A→Keep (fun b=>W.heap.size≤b) A B→J pre B)→(∀pre A B,Jx pre A→Keep (fun b=>W.heap.size≤b) A B→Jx pre B)→
  (∀pre x suf A args,xs=pre++x::suf→J pre A→enc x A args→Yld P l args A (fun v B=>
   (v= .bool true∧J (pre++ [x]) B∧KeepR n0 W.heap.size C A B)∨(v= .bool false∧Jx (pre++ [x]) B)))→
  J [] W→Fn P g (#[.func (.yield l) #[] #[]]++cap) W (fun _ B=>J xs B∨∃pre x suf,xs=pre++x::suf∧Jx (pre++ [x]) B)
def roundN'{α:Type}(I:List α→World→Prop)(Ix:Code→List α→World→Prop)(C:Nat→Prop)(pre':List α)(A:World):Post
 | .normal,_,_,B=>I pre' B∧Keep C A B
 | .ret,_,_,B=>Ix .ret pre' B∧Keep C A B
 | .exit id,_,_,B=>Ix (.exit id) pre' B∧Keep C A B
 | .goto t,_,_,B=>Ix (.goto t) pre' B∧Keep C A B
 |_,_,_,_=>False
theorem W_rangeN{α:Type}{P:Program}{n:Nat}{f:Operand}{ps:Array Tmp}{assign body:Code}{Q:Post}{σ:Sto}{ds:List Deferred}{w:World}
  {g:FuncId} {cap:Array Value} {W0:World} {n0:Nat} {C:Nat→Prop} {xs:List α} {enc:α→World→Array Value→Prop}
  (hf:ev n σ f= .func (.func g) #[] cap) (hc:zao P g=true) (hit:IterN P g cap W0 n0 C xs enc) (hW0:Ext W0 w) (hn0:n0≤w.heap.size) (hCn:∀b,C b→b<w.heap.size)
  (henc:∀x A args,enc x A args→args.size=ps.size)
  (I:List α→World→Prop) (Ix:Code→List α→World→Prop)
  (hI:∀pre A B,I pre A→Keep (fun b=>w.heap.size≤b) A B→I pre B)
  (hIx:∀c pre A B,Ix c pre A→Keep (fun b=>w.heap.size≤b) A B→Ix c pre B)
  (h0:I [] w)
  (hround:∀(l:Nat) (pre:List α) (x:α) (suf:List α) (A:World) (args:Array Value),xs=pre++x::suf→w.heap.size+2≤A.heap.size→I pre A→enc x A args→
   W P (some l) n assign (zdm (fun σ1 ds1 A1=>ds1=[]∧Keep C A A1∧∀A2,Keep (two w.heap.size) A1 A2→W P (some l) n body (roundN' I Ix C (pre++ [x]) A2) σ1 [] A2) (fun _ _ _ _=>False))
    (zdu σ (ps.zip args).toList) [] A)
  (hdone:∀w',w.heap.size+2≤w'.heap.size→I xs w'→w'.heap[w.heap.size]? =some (.deferred (some []))→Q .normal σ ({target:= .collected w.heap.size,args:=#[]}::ds) w')
  (hstop:∀c pre x suf w',w.heap.size+2≤w'.heap.size→xs=pre++x::suf→Ix c (pre++ [x]) w'→w'.heap[w.heap.size]? =some (.deferred (some []))→
   W P Option.none n c Q σ ({target:= .collected w.heap.size,args:=#[]}::ds) w'):
  W P Option.none n (.rangeFunc f ps assign body) Q σ ds w:=by
 refine wpIn_rangeFunc ?_
 intro fn _
 generalize hrec:zen fn (act n σ ds).tmps ps assign body w.heap.size=rec
 obtain⟨W1,hW1⟩:∃W1,(w.alloc (.deferred (some []))).alloc (.loop (rec .ready Option.none))=W1:=⟨_,rfl⟩
 have hsz1:W1.heap.size=w.heap.size+2:=by rw[←hW1];simp
 have hL1:W1.heap[w.heap.size+1]? =some (.loop (rec .ready Option.none)):=by
  rw[←hW1];have:=World.alloc_heap_new (w.alloc (.deferred (some []))) (.loop (rec .ready Option.none));rwa [World.size_alloc]at this
 have hK1:W1.heap[w.heap.size]? =some (.deferred (some [])):=by
  rw[←hW1];exact(RowKit.Below.heap_alloc _ _ _ (by simp)).trans (World.alloc_heap_new w _)
 have hE1:Ext w W1:=by rw[←hW1];exact(Ext.alloc w _).trans (Ext.alloc _ _)
 have hI1:I [] W1:=hI _ _ _ h0 (hE1.mono (fun _ _ h=>h.elim))
 have hl2:two w.heap.size (w.heap.size+1):= .inr rfl
 have hl2':w.heap.size≤w.heap.size+1:=by omega
 refine⟨w.heap.size+1,[{target:= .collected w.heap.size,args:=#[]}],W1,{target:= .fn (.func g) cap,args:=#[.func (.yield (w.heap.size+1)) #[] #[]]},W1,g,
  #[.func (.yield (w.heap.size+1)) #[] #[]]++cap,W1,?_,?_,?_,?_,zdb,?_⟩
 ·rw[←hW1,←hrec];exact run_enterLoop_outer _ _ _ _ _
 ·simp only[resolve,zcf,hf]
  simp[Deferred.ofValue,ev]
 ·intro f' hf';trivial
 ·simp only[invoke];exact zbR hc
 ·-- the iterator's contract
  have hsp:∀{n:Nat} b,b<n→W1.heap.size≤b→w.heap.size≤b:=fun b _ h=>by omega
  have hCl:∀b,two w.heap.size b→¬C b:=fun b hb hcb=>by have:=hCn b hcb;rcases hb with rfl|rfl<;>omega
  refine zcI (CallsIn.mono (hit (w.heap.size+1)
   (fun pre B=>I pre B∧w.heap.size+2≤B.heap.size∧B.heap[w.heap.size+1]? =some (.loop (rec .ready Option.none))∧B.heap[w.heap.size]? =some (.deferred (some [])))
   (fun pre B=>∃c,Ix c pre B∧w.heap.size+2≤B.heap.size∧B.heap[w.heap.size+1]? =some (.loop (rec .done (some c)))∧B.heap[w.heap.size]? =some (.deferred (some [])))
   W1 (hW0.trans hE1) (by omega) ?_ ?_ ?_ ⟨hI1,by omega,hL1,hK1⟩) ?_)
  ·rintro pre A B ⟨hi,hs,hl,hk⟩ hAB
   exact⟨hI _ _ _ hi (hAB.mono hsp),Nat.le_trans hs hAB.size,(hAB.block _ (by omega) (by show¬(_≤_);omega)).trans hl,(hAB.block _ (by omega) (by show¬(_≤_);omega)).trans hk⟩
  ·rintro pre A B ⟨c,hi,hs,hl,hk⟩ hAB
   exact⟨c,hIx _ _ _ _ hi (hAB.mono hsp),Nat.le_trans hs hAB.size,(hAB.block _ (by omega) (by show¬(_≤_);omega)).trans hl,(hAB.block _ (by omega) (by show¬(_≤_);omega)).trans hk⟩
  ·-- one round
   rintro pre x suf A args hxs ⟨hi,hs,hl,hk⟩ hx
   have hy:=run_yield (P:=P) (args:=args) hl (by rw[←hrec];exact henc x A args hx)
   unfold Yld zfZ
   dsimp only
   rw[show (#[]++args:Array Value)=args from by simp]
   rw[hy,←hrec]
   dsimp only[zen,opR]
   refine zcA (r:=Option.none) (n:=0) (roundIn_of_wpIn (F:=fw Option.none) (n:=0) trivial ?_)
   have hin:(fw Option.none).inRound (w.heap.size+1)=fw (some (w.heap.size+1)):=rfl
   rw[hin]
   have hfold:(ps.zip args).foldl (fun t (x:Tmp×Value)=>t.setIfInBounds x.1 x.2) (act n σ ds).tmps=(act n (zdu σ (ps.zip args).toList) []).tmps:=by
    rw[←Array.foldl_toList]
    exact zcG n ds _ σ
   have hst:({tmps:=(ps.zip args).foldl (fun t (x:Tmp×Value)=>t.setIfInBounds x.1 x.2) (act n σ ds).tmps,defers:=[]}:Act)=act n (zdu σ (ps.zip args).toList) []:=by
    rw[hfold];rfl
   have hr:=hround (w.heap.size+1) pre x suf A args hxs (by omega) hi hx
   unfold W at hr
   rw[←hst]at hr
   refine wpIn_mono hr ?_
   rintro e a A1 ⟨σ1,ds1,rfl,hq⟩
   cases e with
   |normal=>
    obtain⟨rfl,hA1,hbody⟩:=hq
    have hlA1:A1.heap[w.heap.size+1]? =some (.loop (rec .ready Option.none)):=(hA1.block _ (by omega) (hCl _ hl2)).trans hl
    have hkA1:A1.heap[w.heap.size]? =some (.deferred (some [])):=(hA1.block _ (by omega) (hCl _ (.inl rfl))).trans hk
    have hlt1:w.heap.size+1<A1.heap.size:=(Array.getElem?_eq_some_iff.1 hlA1).1
    refine⟨_,run_beginRound hlA1 (by rw[←hrec];rfl),?_⟩
    have hb:=hbody _ (zaD (w:=A1) (r:=w.heap.size+1) (o:= .loop {rec .ready Option.none with state:= .busy}) hl2)
    refine wpIn_mono hb ?_
    have hlA2:(A1.putObj (w.heap.size+1) (.loop {rec .ready Option.none with state:= .busy})).heap[w.heap.size+1]? =some (.loop {rec .ready Option.none with state:= .busy}):=World.putObj_heap_same hlt1
    have hkA2:(A1.putObj (w.heap.size+1) (.loop {rec .ready Option.none with state:= .busy})).heap[w.heap.size]? =some (.deferred (some [])):=(World.putObj_heap_other (by omega)).trans hkA1
    have fin:∀(jump:Option Code) (B:World),Keep C (A1.putObj (w.heap.size+1) (.loop {rec .ready Option.none with state:= .busy})) B→
      (Instr.endRound (w.heap.size+1) jump).run P B= .ok (.bool jump.isNone) (B.putObj (w.heap.size+1) (.loop (rec (if jump.isNone then .ready else .done) jump)))∧
      w.heap.size+2≤(B.putObj (w.heap.size+1) (.loop (rec (if jump.isNone then .ready else .done) jump))).heap.size∧
      (B.putObj (w.heap.size+1) (.loop (rec (if jump.isNone then .ready else .done) jump))).heap[w.heap.size+1]? =some (.loop (rec (if jump.isNone then .ready else .done) jump))∧
      (B.putObj (w.heap.size+1) (.loop (rec (if jump.isNone then .ready else .done) jump))).heap[w.heap.size]? =some (.deferred (some []))∧
      KeepR n0 W1.heap.size C A (B.putObj (w.heap.size+1) (.loop (rec (if jump.isNone then .ready else .done) jump))):=by
     intro jump B hB
     have hlB:=(hB.block _ (by rw[zbx];omega) (hCl _ hl2)).trans hlA2
     have hkB:=(hB.block _ (by rw[zbx];omega) (hCl _ (.inl rfl))).trans hkA2
     have hltB:w.heap.size+1<B.heap.size:=(Array.getElem?_eq_some_iff.1 hlB).1
     have z1:=hA1.size
     have z2:=hB.size
     rw[zbx]at z2
     refine⟨?_,by simp;omega,World.putObj_heap_same hltB,(World.putObj_heap_other (by omega)).trans hkB,⟨hB.os.trans hA1.os,hB.tape.trans hA1.tape,hB.output.trans hA1.output,by rw[zbx];omega,fun b hb hr hC=>?_,Nat.le_trans hA1.drawn hB.drawn⟩⟩
     ·have:=run_endRound (P:=P) jump hlB
      rw[←hrec]at this ⊢
      exact this
     ·exact(World.putObj_heap_other (by omega)).trans ((hB.block b (by rw[zbx];omega) hC).trans ((World.putObj_heap_other (by omega)).trans (hA1.block b hb hC)))
    rintro e a B ⟨σ2,ds2,rfl,hq⟩
    cases e with
    |normal=>
     obtain⟨hi',hB⟩:=hq
     obtain⟨h1,h2,h3,h4,h5⟩:=fin Option.none B hB
     exact⟨_,_,h1,_,rfl,.inl ⟨rfl,⟨hI _ _ _ hi' (zaD hl2'),h2,h3.trans (by rw[←hrec];rfl),h4⟩,h5⟩⟩
    |ret=>
     obtain⟨hi',hB⟩:=hq
     obtain⟨h1,h2,h3,h4,h5⟩:=fin (some .ret) B hB
     exact⟨_,_,h1,_,rfl,.inr ⟨rfl,_,hIx _ _ _ _ hi' (zaD hl2'),h2,h3.trans (by rw[←hrec];rfl),h4⟩⟩
    |exit id=>
     obtain⟨hi',hB⟩:=hq
     obtain⟨h1,h2,h3,h4,h5⟩:=fin (some (.exit id)) B hB
     exact⟨_,_,h1,_,rfl,.inr ⟨rfl,_,hIx _ _ _ _ hi' (zaD hl2'),h2,h3.trans (by rw[←hrec];rfl),h4⟩⟩
    |goto t=>
     obtain⟨hi',hB⟩:=hq
     obtain⟨h1,h2,h3,h4,h5⟩:=fin (some (.goto t)) B hB
     exact⟨_,_,h1,_,rfl,.inr ⟨rfl,_,hIx _ _ _ _ hi' (zaD hl2'),h2,h3.trans (by rw[←hrec];rfl),h4⟩⟩
    |panic c=>exact hq.elim
    |outgrown=>exact hq.elim
   |ret=>exact hq.elim
   |exit id=>exact hq.elim
   |goto t=>exact hq.elim
   |panic c=>exact hq.elim
   |outgrown=>exact hq.elim
  ·rintro e B ⟨v,rfl,h⟩
   rcases h with ⟨hi,hs,hl,hk⟩| ⟨pre,x,suf,hxs,c,hi,hs,hl,hk⟩
   ·have hend:=run_endLoop (P:=P) hl (by rw[←hrec];simp[zen])
    have hp:(rec LoopState.ready Option.none).pending=Option.none:=by rw[←hrec];rfl
    rw[hp]at hend
    refine⟨Option.none,_,hend,?_⟩
    exact⟨σ,_,rfl,hdone _ (by simp;omega) (hI _ _ _ hi (zaD hl2')) ((World.putObj_heap_other (by omega)).trans hk)⟩
   ·have hend:=run_endLoop (P:=P) hl (by rw[←hrec];simp[zen])
    have hp:(rec LoopState.done (some c)).pending=some c:=by rw[←hrec];rfl
    rw[hp]at hend
    refine⟨some c,_,hend,?_⟩
    exact hstop c pre x suf _ (by simp;omega) hxs (hIx _ _ _ _ hi (zaD hl2')) ((World.putObj_heap_other (by omega)).trans hk)
end Go.Proofs.YtahbdamijngmmaaGreat
namespace Go.Proofs.YtahbdamijngmmaaGreat
open Go Go.ChangeShapes Go.WideShapes Go.ChangeAt Go.RowKit Go.WideElems
theorem Ext.below{w x:World}(h:Ext w x):RowKit.Below w.heap.size w x:=⟨h.os,h.tape,h.output,h.size,fun k hk=>h.block k hk (fun h=>h)⟩
theorem Ext.kept{w x:World}(h:Ext w x)(may:MemPlace→Prop):w.keptBut x may:=by
 refine⟨h.os,h.output,fun i hi=>?_⟩
 rw[h.block i hi (fun h=>h)]
 cases hw:w.heap[i]? with
 |none=>trivial
 |some o=>cases o<;>simp
theorem zdC{H:Type}{enc:TypeId×Value→H}{P:Program}(hl:laidOutB P=true){W W':World}{sp:Nat→Bool}(hE:Ext W W'):
  ∀{ts:List TypeId} {vs:List Value} {ds:List (DataW H)} {ps:List MemPlace},(∀t∈ts,P.readableRec t=true∧t<P.types.size)→DataW.TrodAll enc P W 0 (fun _=>true) true ts vs ds ps→(∀x∈ps,x.block<W.heap.size)→(∀x∈ps,sp x.block=true)→
   DataW.TrodAll enc P W' 0 sp true ts vs ds ps
 | [],_,_,_,_,h,_,_=>by
  obtain⟨rfl,rfl,rfl⟩:=trodAll_nil h
  exact trodAll_mk0
 |_::_,_,_,_,ht,h,hlt,hs=>by
  obtain⟨v,vs1,d,ds1,a,b,rfl,rfl,rfl,h1,h2⟩:=trodAll_cons h
  obtain⟨hr,hrow⟩:=ht _ (List.mem_cons_self ..)
  exact trodAll_cons_mk (WideElems.Trod_stays hl hr hrow h1 (fun x hx=>hE.below.same (hlt x (List.mem_append_left _ hx))) (fun x hx=>hs x (List.mem_append_left _ hx)))
   (zdC hl hE (fun t h=>ht t (List.mem_cons_of_mem _ h)) h2 (fun x hx=>hlt x (List.mem_append_right _ hx)) (fun x hx=>hs x (List.mem_append_right _ hx)))
theorem ziH{w x:World}(h:Ext w x){b:Nat}(hb:b<w.heap.size)(o:Nat):x.frozen? ⟨b,o,Option.none⟩=w.frozen? ⟨b,o,Option.none⟩:=by
 unfold World.frozen?
 rw[h.block b hb (fun h=>h)]
theorem law_post{H:Type}{enc:TypeId×Value→H}{P:Program}{f:Func}{s:ChangeSpec}{apart fresh handsOn again:Bool}{W W':World}{args:Array Value}{ds gs:List (DataW H)}{before:List MemPlace}
  (hW:DataW.Whole enc P f.params.toList s.vars apart W args.toList ds gs before) (hvn:s.vars=[]) (hspec:s.fn H ds={results:=[.lit (.bool true)],args:=ds}) {tb:TypeId} (hrt:f.resultTypes=#[tb]) (htb:P.underlying tb=some .bool)
  (hl:laidOutB P=true) (hrd:∀t∈f.params.toList,P.readableRec t=true∧t<P.types.size) (hE:Ext W W'):s.post enc P f apart fresh handsOn again W args (.bool true) W':=by
 have hlt:=hW.lt
 have hW0:=hW
 obtain⟨p,q,hA,hV,hpq,hfz,hnd⟩:=hW
 have hq:gs=[]∧q=[]:=by
  rw[hvn]at hV
  cases gs with
  |nil=>exact⟨rfl,hV⟩
  |cons _ _=>exact hV.elim
 obtain⟨rfl,rfl⟩:=hq
 rw[List.append_nil]at hpq
 subst hpq
 have hres:∀(b:Nat) (sp:Nat→Bool) (hd:Bool),DataW.TrodAll enc P W' b sp hd f.resultTypes.toList ((Value.bool true).resultList f.resultTypes.size) (s.fn H (ds++ [])).results []:=fun b sp hd=>by
  rw[List.append_nil,hspec,hrt]
  exact trodAll_mk1 (shut_bool htb true)
 have hargs:∀sp:Nat→Bool,(∀x∈before,sp x.block=true)→DataW.TrodAll enc P W' 0 sp true f.params.toList args.toList (s.fn H (ds++ [])).args before:=fun sp hs=>by
  rw[List.append_nil,hspec]
  exact zdC hl hE hrd hA hlt hs
 have hvars:∀sp:Nat→Bool,DataW.TrodVars enc P W' sp s.vars (s.fn H (ds++ [])).vars []:=fun sp=>by
  rw[List.append_nil,hspec,hvn];rfl
 have hold:∀x∈before,(fun b=>decide (b<W.heap.size)) x.block=true:=fun x hx=>by simpa using hlt x hx
 refine⟨ds,[],before,[],before,[],hW0,hres _ _ _,hargs _ hold,hvars _,hE.kept _,fun _=>?_⟩
 refine⟨fun j t r h1 h2=>?_,_,_,([]++before)++ [],⟨[]++before,[],trodAll_append (hargs _ (fun _ _=>rfl)) (hres _ _ _),hvars _,rfl,?_,?_⟩,?_⟩
 ·rw[hrt]at h1 h2
  match j with
  |0=>
   simp at h1
   subst h1
   have:r= .bool true:=by simpa [Value.resultList] using h2.symm
   subst this
   exact okWide_bool_mk htb true
  |j+1=>simp at h1
 ·intro b off hp
  have hp':MemPlace.cell b off∈before:=by simpa using hp
  rw[ziH hE (show b<W.heap.size from hlt _ hp')]
  exact hfz b off hp'
 ·intro ha
  simpa using hnd ha
 ·intro x hx _
  simpa using hx
theorem law_lift{C:Checked}{os:Os}{f:FuncId}{fn:Func}{s:ChangeSpec}{conds:List PathCond}{apart fresh handsOn again:Bool}{H:Type}{enc:TypeId×Value→H}
  (own:ownKnob C.prog.godebug=none) (started:os.Started) (noInit:C.prog.inits.idxOf? f=none) (hfn:C.prog.funcs[f]? =some fn)
  (witness:∃(w:World) (tape:Tape) (i:Input),w.os=os∧(w.forCall tape i).Shaped C.prog∧i.vars=[]∧Input.okWide C.prog (w.forCall tape i) .any w.heap.size f i∧
   s.pre6 enc C.prog fn conds apart (w.forCall tape i).memory i.args∧({}:Assume).holds C.prog (lone (Frame.enter C.prog f i.args .normal) [] (w.forCall tape i)))
  (hvn:s.vars=[]) (hspec:∀ds:List (DataW H),ds.length=fn.params.size→s.fn H ds={results:=[.lit (.bool true)],args:=ds}) {tb:TypeId} (hrt:fn.resultTypes=#[tb]) (htb:C.prog.underlying tb=some .bool)
  (hl:laidOutB C.prog=true) (hrd:fn.params.toList.all (fun t=>C.prog.readableRec t && decide (t<C.prog.types.size))=true)
  (walk:∀(W:World) (base:Nat) (args:List Value) (ds:List (DataW H)) (p:List MemPlace),(∀(j:Nat) t v,fn.params[j]? =some t→args[j]? =some v→Value.okWide C.prog W .any base t v)→
   DataW.TrodAll enc C.prog W 0 (fun _=>true) true fn.params.toList args ds p→(∀x∈DataW.weightsEach C.prog fn.params.toList ds,x≤reachBytes)→Fn C.prog f args.toArray W (fun v W'=>v= .bool true∧Ext W W')):
  ReturnsInHanded {} C os f .any (s.pre6 enc C.prog fn conds apart) (s.post enc C.prog fn apart fresh handsOn again):=by
 refine returnsInHanded_of_change_sized own started noInit hfn witness ?_
 intro W base args ds gs before hval hW _ hwt _
 have hW0:=hW
 obtain⟨p,q,hA,hV,_⟩:=hW
 have hgs:gs=[]:=by
  rw[hvn]at hV
  cases gs with
  |nil=>rfl
  |cons _ _=>exact hV.elim
 subst hgs
 have hvt:s.plain.varTypes C.prog=[]:=by
  unfold DataSpec.varTypes
  rw[show s.plain.vars=[] from hvn];rfl
 rw[hvt,List.append_nil,List.append_nil]at hwt
 have hlen:∀{ts:List TypeId} {vs:List Value} {ds:List (DataW H)} {ps:List MemPlace},DataW.TrodAll enc C.prog W 0 (fun _=>true) true ts vs ds ps→ds.length=ts.length:=by
  intro ts
  induction ts with
  |nil=>intro vs ds ps h;obtain⟨rfl,rfl,rfl⟩:=trodAll_nil h;rfl
  |cons t ts ih=>
   intro vs ds ps h
   obtain⟨v,vs1,d,ds1,a,b,rfl,rfl,rfl,h1,h2⟩:=trodAll_cons h
   simp[ih h2]
 have hw:=walk W base args.toList ds p (fun j t v h1 h2=>hval j t v h1 (by simpa using h2)) hA (fun x hx=>by simpa using (List.all_eq_true.1 hwt) x hx)
 rw[Array.toArray_toList]at hw
 refine Calls.mono (callsIn_wide.1 hw) ?_
 rintro e W' ⟨v,rfl,rfl,hE⟩
 refine⟨_,rfl,law_post hW0 hvn (hspec ds (by rw[hlen hA];simp)) hrt htb hl (fun t ht=>?_) hE⟩
 have:=(List.all_eq_true.1 hrd) t ht
 simpa using this
/-! arguments -/
section
variable {H : Type} {enc : TypeId × Value → H} {P : Program} {w : World} {base : Nat} {sp : Nat → Bool} {held : Bool}
def Rd(enc:TypeId×Value→H)(P:Program)(w:World)(base:Nat)(sp:Nat→Bool)(held:Bool)(t:TypeId)(v:Value):Prop:=∃n x,DataW.trod enc P w base sp held n t [v]=some x∧∀k∈x.1.weights P t,k≤reachBytes
theorem zcx{e:TypeId}{d:DataW H}{k:Nat}:∀{l:List (DataW H)},d∈l→k∈d.weights P e→k∈DataW.weightsAll P e l
 |a::l,hd,hk=>by
  simp only[DataW.weightsAll,List.mem_append]
  rcases List.mem_cons.1 hd with rfl|hd
  ·exact .inl hk
  ·exact .inr (zcx hd hk)
theorem zfL{t e:TypeId}{v:Value}(h:Rd enc P w base sp held t v)(ht:P.underlying t=some (.slice e))(hc:P.cellsOf e=1):
  ∃vals,Row w v vals∧(∀u∈vals,Rd enc P w base sp held e u)∧vals.length*P.bytesOf e≤reachBytes:=by
 obtain⟨n,x,h,hw⟩:=h
 rcases Go.Deep.open_slice1 ht hc h with ⟨h1,_⟩| ⟨a,len,cap,m,k,V,D,Pl,h1,_,hl,hm,hmm,rfl,hx⟩
 ·simp only[List.cons.injEq,and_true]at h1
  subst h1
  exact⟨[],⟨Option.none,0,rfl,Nat.le_refl _,fun j h=>by simp at h⟩,fun u h=>(by cases h),by simp⟩
 ·simp only[List.cons.injEq,and_true]at h1
  subst h1
  have hml:len≤m:=by rw[hmm];split<;>omega
  simp only[DataW.weights,ht]at hw
  refine⟨(List.range len).map V,⟨some a,cap,by simp,by simpa using hl,fun j hj=>?_⟩,fun u hu=>?_,?_⟩
  ·simp at hj
   have:=(hx j (by omega)).1
   simpa [zah,adr] using this
  ·obtain⟨j,hj,rfl⟩:=List.mem_map.1 hu
   simp at hj
   refine⟨_,_,(hx j (by omega)).2,fun q hq=>hw q (List.mem_cons_of_mem _ (List.mem_append_left _ (zcx (d:=D j) ?_ hq)))⟩
   exact List.mem_map.2 ⟨j,by simpa using hj,rfl⟩
  ·have h1:=hw _ (List.mem_cons_self ..)
   have h2:((List.range len).map V).length*P.bytesOf e≤(((List.range len).map D).length+((List.range (m - len)).map fun j=>D (len+j)).length)*P.bytesOf e:=Nat.mul_le_mul (by simp) (Nat.le_refl _)
   omega
theorem zjx{t:TypeId}{v:Value}(h:Rd enc P w base sp held t v)(ht:P.underlying t=some .string):∃s:List UInt8,v=vs s∧s.length≤reachBytes:=by
 obtain⟨n,x,h,hw⟩:=h
 cases n with
 |zero=>cases h
 |succ n=>
  unfold DataW.trod at h
  rw[ht]at h
  cases v<;>simp at h
  rename_i s
  obtain⟨_,rfl⟩:=h
  exact⟨s.data.toList,by simp[vs],by simpa [DataW.weights,ByteArray.toList_eq] using hw⟩
theorem zhe{α β:Type}{f:α→β}{Q:α→Prop}:∀{l:List β},(∀u∈l,∃s,u=f s∧Q s)→∃m:List α,l=m.map f∧∀s∈m,Q s
 | [],_=>⟨[],rfl,fun s h=>by cases h⟩
 |b::l,h=>by
  obtain⟨s,rfl,hq⟩:=h b (List.mem_cons_self ..)
  obtain⟨m,rfl,hm⟩:=zhe (fun u hu=>h u (List.mem_cons_of_mem _ hu))
  refine⟨s::m,rfl,fun x hx=>?_⟩
  rcases List.mem_cons.1 hx with rfl|hx
  ·exact hq
  ·exact hm x hx
end
end Go.Proofs.YtahbdamijngmmaaGreat
namespace Go.Proofs.YtahbdamijngmmaaGreat
open Go
section
variable {H : Type} {enc : TypeId × Value → H} {P : Program} {w : World} {base : Nat} {sp : Nat → Bool} {held : Bool}
structure NmOk(n:Nm):Prop where
 lb:LB n
 len:n.length≤8796093022207
theorem reach_lt:reachBytes<140737488355328:=by decide
theorem zeL{t e:TypeId}{v:Value}(h:Rd enc P w base sp held t v)(ht:P.underlying t=some (.slice e))(hc:P.cellsOf e=1)(he:P.underlying e=some .string)(hb:P.bytesOf e=16):∃n:Nm,Row w v (n.map vs)∧NmOk n:=by
 obtain⟨vals,hr,hall,hl⟩:=zfL h ht hc
 obtain⟨m,rfl,hm⟩:=zhe (f:=vs) (fun u hu=>zjx (hall u hu) he)
 have:=reach_lt
 rw[hb]at hl
 exact⟨m,hr,fun l hl=>by have:=hm l hl;omega,by simp at hl;omega⟩
theorem rd_names{t ts tb:TypeId}{v:Value}(h:Rd enc P w base sp held t v)(ht:P.underlying t=some (.slice ts))(hc:P.cellsOf ts=1)(ht2:P.underlying ts=some (.slice tb))(hc2:P.cellsOf tb=1)(he:P.underlying tb=some .string)(hb:P.bytesOf tb=16):
  ∃L:List Nm,NamesAt w v L∧∀n∈L,NmOk n:=by
 obtain⟨vals,hr,hall,hlen0⟩:=zfL h ht hc
 have:∃L:List Nm,(vals.length=L.length∧∀i (h:i<vals.length) (h':i<L.length),Row w vals[i] (L[i].map vs))∧∀n∈L,NmOk n:=by
  clear hr h hlen0
  induction vals with
  |nil=>exact⟨[],⟨rfl,fun i h=>by simp at h⟩,fun n h=>by cases h⟩
  |cons u vals ih=>
   obtain⟨n,hn,hok⟩:=zeL (hall u (List.mem_cons_self ..)) ht2 hc2 he hb
   obtain⟨L,⟨h1,h2⟩,h3⟩:=ih (fun x hx=>hall x (List.mem_cons_of_mem _ hx))
   refine⟨n::L,⟨by simp[h1],fun i a b=>?_⟩,fun x hx=>?_⟩
   ·cases i with
    |zero=>exact hn
    |succ i=>exact h2 i (by simpa using a) (by simpa using b)
   ·rcases List.mem_cons.1 hx with rfl|hx
    ·exact hok
    ·exact h3 x hx
 obtain⟨L,⟨h1,h2⟩,h3⟩:=this
 exact⟨L,⟨vals,hr,h1,h2⟩,h3⟩
end
class Tr (p:World→Prop):Prop where
 tr:∀{w x:World},Ext w x→p w→p x
theorem tr{p:World→Prop}[h:Tr p]{w x:World}(hE:Ext w x)(hp:p w):p x:=h.tr hE hp
instance Tr.and{p q:World→Prop}[Tr p][Tr q]:Tr fun w=>p w∧q w:=⟨fun hE h=>⟨tr hE h.1,tr hE h.2⟩⟩
instance Tr.cell{a:Option Addr}{v:Value}:Tr fun w=>zah w a=some v:=⟨fun hE h=>zaa hE h⟩
instance Tr.cells{a:Option Addr}{k:Nat}{l:List Value}:Tr fun w=>zaw w a k=some l:=⟨fun hE h=>zaf hE h⟩
instance Tr.ext{w0:World}:Tr fun w=>Ext w0 w:=⟨fun hE h=>h.trans hE⟩
instance Tr.row{v:Value}{l:List Value}:Tr fun w=>Row w v l:=⟨fun hE h=>h.ext hE⟩
instance Tr.obj{b:Nat}{o:Obj}:Tr fun w=>w.heap[b]? =some o:=⟨fun hE h=>Ext.at hE h⟩
instance Tr.const{p:Prop}:Tr fun _=>p:=⟨fun _ h=>h⟩
instance Tr.all{α:Sort _}{p:α→World→Prop}[∀a,Tr (p a)]:Tr fun w=>∀a,p a w:=⟨fun hE h a=>tr hE (h a)⟩
instance Tr.ex{α:Sort _}{p:α→World→Prop}[∀a,Tr (p a)]:Tr fun w=>∃a,p a w:=⟨fun hE h=>h.elim fun a h=>⟨a,tr hE h⟩⟩
attribute [go_sem] decide_true decide_false
theorem sc{p q:Prop}(h:p)(hs:p→q=True:=by intro h1;simp only[go_sem,h1]):q:=(hs h).mpr trivial
/-! many steps at once -/
structure Gto(p q:Prop):Prop where
 of:q→p
section
variable {P : Program} {r : Option Nat} {n : Nat} {Q : Post} {σ : Sto} {ds : List Deferred} {w : World} {p q s : Prop} {L : List Oper} {F : (Nat → Option Tmp) → (Sto → World → Prop) → Prop}
theorem zj2:Gto p p:=⟨id⟩
theorem gto_c(h:Ctl p q)(k:Gto q s):Gto p s:=⟨fun g=>c_r (k.of g) h⟩
theorem gto_r{id:Nat}{ops:Array Oper}{σ1:Sto}{w1:World}(hs:∀(gd:Nat→Option Tmp) (K:Sto→World→Prop),gd=dstL ops.toList→opsV P gd n ops.toList σ w K=K σ1 w1)(hd:zaY ops=true)(k:Gto (Q .normal σ1 ds w1) q):
  Gto (W P r n (.region id ops false) Q σ ds w) q:=⟨fun g=>zcv hd fun gd K hgd hK=>(hs gd K hgd).mpr (hK _ _ (k.of g))⟩
theorem gto_t{c:Operand}{x y:Code}(hc:ev n σ c= .bool true)(k:Gto (W P r n x Q σ ds w) q):Gto (W P r n (.cond c x y) Q σ ds w) q:=⟨fun g=>zaO hc (fun _=>k.of g) (fun h=>by cases h)⟩
theorem gto_f{c:Operand}{x y:Code}(hc:ev n σ c= .bool false)(k:Gto (W P r n y Q σ ds w) q):Gto (W P r n (.cond c x y) Q σ ds w) q:=⟨fun g=>zaO hc (fun h=>by cases h) (fun _=>k.of g)⟩
theorem go(h:p)(hq:s)(hs:p→Gto q s:=by
  intro h1
  repeat (first
   | (apply gto_c;· (with_reducible constructor)<;>exact rfl)
   | (apply gto_r;(intro gd K hgd;(simp (disch:=first|omega|assumption|rfl) only[go_sem,h1])<;>with_reducible exact rfl);rfl)
   | (apply gto_t;· first| (simp only[go_sem,h1];done)| (simp only[go_sem,h1];exact rfl))
   | (apply gto_f;· first| (simp only[go_sem,h1];done)| (simp only[go_sem,h1];exact rfl)))
  exact zj2):q:=(hs h).of hq
theorem rgo{σ1:Sto}{w1:World}(h:p)(hq:s)
  (hs:p→∀(gd:Nat→Option Tmp) (K:Sto→World→Prop),F gd K=K σ1 w1:=by intro h1 gd K;(first| (simp (disch:=first|omega|assumption|rfl) only[go_sem,h1])|skip)<;>exact rfl)
  (hg:p→Gto (Q .normal σ1 ds w1) s:=by
   intro h1
   repeat (first
    | (apply gto_c;· (with_reducible constructor)<;>exact rfl)
    | (apply gto_r;(intro gd K hgd;(simp (disch:=first|omega|assumption|rfl) only[go_sem,h1])<;>with_reducible exact rfl);rfl)
    | (apply gto_t;· first| (simp only[go_sem,h1];done)| (simp only[go_sem,h1];exact rfl))
    | (apply gto_f;· first| (simp only[go_sem,h1];done)| (simp only[go_sem,h1];exact rfl)))
   exact zj2):Rest P Q ds L F:=
 re (p:=True) trivial ((hg h).of hq) fun _=>hs h
theorem zgP{c:Code}(N:Nat)(I:Nat→Sto→World→Prop)(h0:I 0 σ w)
  (hs:∀i σ w,i<N→(decide ((i:Int)<(N:Int))=true∧(0:Int)≤(i:Int)∧(i:Int)<(N:Int)∧(i:Int)+1=((i+1:Nat):Int))→I i σ w→W P r n c (zdm (fun σ ds w=>ds=[]∧I (i+1) σ w) Q) σ [] w)
  (he:∀σ w,decide ((N:Int)<(N:Int))=false→I N σ w→W P r n c (zdm (fun _ _ _=>False) Q) σ [] w):W P r n (.loop c) Q σ [] w:=by
 refine zai (fun m σ ds w=>ds=[]∧∃i,i+m=N∧I i σ w) N ⟨rfl,0,by omega,h0⟩ ?_
 rintro m σ ds w ⟨rfl,i,him,hI⟩
 by_cases h:i<N
 ·refine zax (hs i σ w h ⟨decide_eq_true (by omega),by omega,by omega,by push_cast;rfl⟩ hI) ?_
  intro e σ' ds' w' hq
  cases e<;>first|exact hq|exact⟨m - 1,by omega,hq.1,i+1,by omega,hq.2⟩
 ·have e1:i=N:=by omega
  subst e1
  refine zax (he σ w (decide_eq_false (by omega)) hI) ?_
  intro e σ' ds' w' hq
  cases e<;>first|exact hq|exact hq.elim
end
end Go.Proofs.YtahbdamijngmmaaGreat
