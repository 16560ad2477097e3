/-
  Texts of a proof, joined: K32, O2, K34, O3, O4, W0, W1, W2, V7, V8, V9, VA, Y6, VB, VC, W3, W4, K29, W5.
  Conditions: none.
-/
import Derived.Test.YtahbdamijngmmaaGreatJPE06
import Derived.Test.YtahbdamijngmmaaGreatJPE02
import Derived.Test.YtahbdamijngmmaaGreatJPE05
import Derived.Test.YtahbdamijngmmaaGreatJPE01
import Derived.Test.YtahbdamijngmmaaGreatJPE04
set_option linter.unusedVariables false
set_option linter.unusedSimpArgs false
set_option linter.defProp false
set_option linter.unnecessarySimpa false
set_option maxHeartbeats 8000000
namespace Go.Proofs.YtahbdamijngmmaaGreat
open Go
class Tr (p:World→Prop):Prop where
 tr:∀{w x:World},Ext w x→p w→p x
theorem tr{p:World→Prop}[h:Tr p]{w x:World}(hE:Ext w x)(hp:p w):p x:=h.tr hE hp
instance Tr.and{p q:World→Prop}[Tr p][Tr q]:Tr fun w=>p w∧q w:=⟨fun hE h=>⟨tr hE h.1,tr hE h.2⟩⟩
instance Tr.cell{a:Option Addr}{v:Value}:Tr fun w=>zae w a=some v:=⟨fun hE h=>zaa hE h⟩
instance Tr.cells{a:Option Addr}{k:Nat}{l:List Value}:Tr fun w=>zal w a k=some l:=⟨fun hE h=>zac hE h⟩
instance Tr.ext{w0:World}:Tr fun w=>Ext w0 w:=⟨fun hE h=>h.trans hE⟩
instance Tr.row{v:Value}{l:List Value}:Tr fun w=>Row w v l:=⟨fun hE h=>h.ext hE⟩
instance Tr.obj{b:Nat}{o:Obj}:Tr fun w=>w.heap[b]? =some o:=⟨fun hE h=>Ext.at hE h⟩
instance Tr.const{p:Prop}:Tr fun _=>p:=⟨fun _ h=>h⟩
instance Tr.all{α:Sort _}{p:α→World→Prop}[∀a,Tr (p a)]:Tr fun w=>∀a,p a w:=⟨fun hE h a=>tr hE (h a)⟩
instance Tr.ex{α:Sort _}{p:α→World→Prop}[∀a,Tr (p a)]:Tr fun w=>∃a,p a w:=⟨fun hE h=>h.elim fun a h=>⟨a,tr hE h⟩⟩
attribute [go_sem] decide_true decide_false
theorem sc{p q:Prop}(h:p)(hs:p→q=True:=by intro h1;simp only[go_sem,h1]):q:=(hs h).mpr trivial
/-! many steps at once -/
structure Gto(p q:Prop):Prop where
 of:q→p
section
variable {P : Program} {r : Option Nat} {n : Nat} {Q : Post} {σ : Sto} {ds : List Deferred} {w : World} {p q s : Prop} {L : List Oper} {F : (Nat → Option Tmp) → (Sto → World → Prop) → Prop}
theorem zkG:Gto p p:=⟨id⟩
theorem gto_c(h:Ctl p q)(k:Gto q s):Gto p s:=⟨fun g=>c_r (k.of g) h⟩
theorem gto_r{id:Nat}{ops:Array Oper}{σ1:Sto}{w1:World}(hs:∀(gd:Nat→Option Tmp) (K:Sto→World→Prop),gd=dstL ops.toList→opsV P gd n ops.toList σ w K=K σ1 w1)(hd:zaU ops=true)(k:Gto (Q .normal σ1 ds w1) q):
  Gto (W P r n (.region id ops false) Q σ ds w) q:=⟨fun g=>zcG hd fun gd K hgd hK=>(hs gd K hgd).mpr (hK _ _ (k.of g))⟩
theorem gto_t{c:Operand}{x y:Code}(hc:ev n σ c= .bool true)(k:Gto (W P r n x Q σ ds w) q):Gto (W P r n (.cond c x y) Q σ ds w) q:=⟨fun g=>zaG hc (fun _=>k.of g) (fun h=>by cases h)⟩
theorem gto_f{c:Operand}{x y:Code}(hc:ev n σ c= .bool false)(k:Gto (W P r n y Q σ ds w) q):Gto (W P r n (.cond c x y) Q σ ds w) q:=⟨fun g=>zaG hc (fun h=>by cases h) (fun _=>k.of g)⟩
theorem go(h:p)(hq:s)(hs:p→Gto q s:=by
  intro h1
  repeat (first
   | (apply gto_c;· (with_reducible constructor)<;>exact rfl)
   | (apply gto_r;(intro gd K hgd;(simp (disch:=first|omega|assumption|rfl) only[go_sem,h1])<;>with_reducible exact rfl);rfl)
   | (apply gto_t;· first| (simp only[go_sem,h1];done)| (simp only[go_sem,h1];exact rfl))
   | (apply gto_f;· first| (simp only[go_sem,h1];done)| (simp only[go_sem,h1];exact rfl)))
  exact zkG):q:=(hs h).of hq
theorem rgo{σ1:Sto}{w1:World}(h:p)(hq:s)
  (hs:p→∀(gd:Nat→Option Tmp) (K:Sto→World→Prop),F gd K=K σ1 w1:=by intro h1 gd K;(first| (simp (disch:=first|omega|assumption|rfl) only[go_sem,h1])|skip)<;>exact rfl)
  (hg:p→Gto (Q .normal σ1 ds w1) s:=by
   intro h1
   repeat (first
    | (apply gto_c;· (with_reducible constructor)<;>exact rfl)
    | (apply gto_r;(intro gd K hgd;(simp (disch:=first|omega|assumption|rfl) only[go_sem,h1])<;>with_reducible exact rfl);rfl)
    | (apply gto_t;· first| (simp only[go_sem,h1];done)| (simp only[go_sem,h1];exact rfl))
    | (apply gto_f;· first| (simp only[go_sem,h1];done)| (simp only[go_sem,h1];exact rfl)))
   exact zkG):Rest P Q ds L F:=
 re (p:=True) trivial ((hg h).of hq) fun _=>hs h
theorem zho{c:Code}(N:Nat)(I:Nat→Sto→World→Prop)(h0:I 0 σ w)
  (hs:∀i σ w,i<N→(decide ((i:Int)<(N:Int))=true∧(0:Int)≤(i:Int)∧(i:Int)<(N:Int)∧(i:Int)+1=((i+1:Nat):Int))→I i σ w→W P r n c (zde (fun σ ds w=>ds=[]∧I (i+1) σ w) Q) σ [] w)
  (he:∀σ w,decide ((N:Int)<(N:Int))=false→I N σ w→W P r n c (zde (fun _ _ _=>False) Q) σ [] w):W P r n (.loop c) Q σ [] w:=by
 refine zar (fun m σ ds w=>ds=[]∧∃i,i+m=N∧I i σ w) N ⟨rfl,0,by omega,h0⟩ ?_
 rintro m σ ds w ⟨rfl,i,him,hI⟩
 by_cases h:i<N
 ·refine zaA (hs i σ w h ⟨decide_eq_true (by omega),by omega,by omega,by push_cast;rfl⟩ hI) ?_
  intro e σ' ds' w' hq
  cases e<;>first|exact hq|exact⟨m - 1,by omega,hq.1,i+1,by omega,hq.2⟩
 ·have e1:i=N:=by omega
  subst e1
  refine zaA (he σ w (decide_eq_false (by omega)) hI) ?_
  intro e σ' ds' w' hq
  cases e<;>first|exact hq|exact hq.elim
end
set_option maxRecDepth 10000
abbrev MetL:=zaq×List Int
def keyS(s:zaq):KeyL:=⟨zbh (zaw s.name),s.sv,s.rw,s.rf,s.fin,s.ref⟩
theorem KeyL.eq_iff{a b:KeyL}:(a.name=b.name∧a.a=b.a∧a.b=b.b∧a.c=b.c∧a.d=b.d∧a.ref=b.ref)↔a=b:=by
 cases a;cases b;simp
instance:DecidableEq KeyL:=fun _ _=>decidable_of_iff _ KeyL.eq_iff
def putL(row:List MetL)(x:MetL):List MetL:=if (row.any fun y=>decide (keyS y.1=keyS x.1))=true then row else row++ [x]
def setB(b m:Nat)(lv:Value):Nat→Prop:=fun i=>i=b∨i=m∨some i=lv.ownBlock
def RowY(S:Nat→Prop)(w:World)(v:Value)(l:List Value):Prop:=Row w v l∧(l≠ []→∀a n c,v= .slice (some a) n c→a.block<w.heap.size∧¬S a.block)
theorem RowY.turn{S S':Nat→Prop}{w x:World}{v:Value}{l:List Value}(h:RowY S w v l)(hk:Keep S w x)(hS:∀b,S' b→S b∨w.heap.size≤b):RowY S' x v l:=by
 obtain⟨h1,h2⟩:=h
 refine⟨?_,fun hl a n c e=>?_⟩
 ·by_cases hl:l=[]
  ·subst hl
   obtain⟨a,c,e,hc,_⟩:=h1
   exact⟨a,c,e,hc,fun j hj=>absurd hj (by simp)⟩
  ·exact h1.blocks fun a n c e=>hk.block _ (h2 hl a n c e).1 (h2 hl a n c e).2
 ·obtain⟨k1,k2⟩:=h2 hl a n c e
  have:=hk.size
  exact⟨by omega,fun hb=>(hS _ hb).elim k2 (by omega)⟩
theorem RowY.old{S:Nat→Prop}{w0 w:World}{v:Value}{l:List Value}(h:Row w0 v l)(hE:Ext w0 w)(hS:∀b,S b→w0.heap.size≤b):RowY S w v l:=by
 refine⟨h.ext hE,fun hl a n c e=>?_⟩
 obtain⟨a',c',e',_,hg⟩:=h
 have h0:=hg 0 (List.length_pos_iff.2 hl)
 rw[e',Value.slice.injEq]at e
 obtain⟨rfl,_,_⟩:=e
 rw[zaz]at h0
 have hlt:a.block<w0.heap.size:=by
  have hc:w0.cell? a=some (l[0]'(List.length_pos_iff.2 hl)):=h0
  unfold World.cell? at hc
  cases hb:w0.heap[a.block]? with
  |none=>rw[hb]at hc;cases hc
  |some o=>exact(Array.getElem?_eq_some_iff.1 hb).1
 have:=hE.size
 exact⟨by omega,fun hb=>by have:=hS _ hb;omega⟩
theorem RowY.alike{S:Nat→Prop}{w:World}{v:Value}{l l2:List Value}(h:RowY S w v l)(h2:Row w v l2):RowY S w v l2:=by
 refine⟨h2,fun hl a n c e=>h.2 (fun h0=>hl ?_) a n c e⟩
 obtain⟨a1,c1,e1,_⟩:=h.1
 obtain⟨a2,c2,e2,_⟩:=h2
 rw[e1,Value.slice.injEq]at e2
 exact List.eq_nil_of_length_eq_zero (by rw[←e2.2.1,h0];rfl)
structure MetAt(S:Nat→Prop)(w:World)(cs:List Value)(x:MetL):Prop where
 ex:∃nv pv,cs=stV nv x.1++ [pv]∧RowY S w nv (x.1.name.map vs)∧RowY S w pv (x.2.map vi)
theorem MetAt.turn{S S':Nat→Prop}{w x:World}{cs:List Value}{m:MetL}(h:MetAt S w cs m)(hk:Keep S w x)(hS:∀b,S' b→S b∨w.heap.size≤b):MetAt S' x cs m:=by
 obtain⟨nv,pv,e,h1,h2⟩:=h.ex
 exact⟨nv,pv,e,h1.turn hk hS,h2.turn hk hS⟩
theorem MetAt.ones{S:Nat→Prop}{w:World}{cs:List Value}{x:MetL}(h:MetAt S w cs x):cs.length=7∧∀q∈cs,one q=true:=by
 obtain⟨nv,pv,rfl,h1,h2⟩:=h.ex
 have e1:=h1.1.isOne
 have e2:=h2.1.isOne
 refine⟨rfl,fun q hq=>?_⟩
 rcases List.mem_append.1 hq with hq|hq
 ·exact zcJ e1 q hq
 ·rw[List.mem_singleton.1 hq];exact e2
theorem zgY(S:Nat→Prop)(w:World):zeq 7 (MetAt S w):=⟨fun h=>h.ones.1,fun h=>h.ones.2⟩
structure SetI(w v:World)(b m:Nat)(lv:Value)(row:List MetL):Prop where
 c:v.heap[b]? =some (.cells #[.map (some m),lv] 161 (0,0))
 g:GM v m (row.map fun x=>(keyV (keyS x.1),.bool true))
 o:Owns 7 (MetAt (setB b m lv) v) w.heap.size v 164 lv row
 e:Ext w v
 lo:w.heap.size≤b∧w.heap.size≤m∧b≠m∧some b≠lv.ownBlock∧some m≠lv.ownBlock
theorem SetI.lt{w v:World}{b m:Nat}{lv:Value}{row:List MetL}(h:SetI w v b m lv row){i:Nat}(hi:setB b m lv i):w.heap.size≤i∧i<v.heap.size:=by
 obtain⟨l1,l2,_⟩:=h.lo
 rcases hi with rfl|rfl|hi
 ·exact⟨l1,(Array.getElem?_eq_some_iff.1 h.c).1⟩
 ·exact⟨l2,h.g.lt⟩
 ·exact h.o.ge hi
theorem SetI.ext{w v x:World}{b m:Nat}{lv:Value}{row:List MetL}(h:SetI w v b m lv row)(hE:Ext v x):SetI w x b m lv row:=
 ⟨Ext.at hE h.c,h.g.block (hE.block _ h.g.lt (fun h=>h)),(h.o.ext hE).to fun _ _ h=>h.turn (hE.mono fun _ _ h=>h.elim) (fun _ h=> .inl h),h.e.trans hE,h.lo⟩
theorem put_ok{w v:World}{b m:Nat}{lv:Value}{row:List MetL}{mc:List Value}{X:MetL}(h:SetI w v b m lv row)(hX:MetAt (setB b m lv) v mc X)(hk:zjE (keyS X.1))(hrk:∀y∈row,zjE (keyS y.1))(hlen:row.length≤100000000):
  Fn Tryz.prog 138 #[.pointer (some ⟨b,0,Option.none⟩),keyV (keyS X.1),.agg mc.toArray] v (fun _ v'=>∃lv',SetI w v' b m lv' (putL row X)∧Keep (setB b m lv) v v'∧∀i,setB b m lv' i→setB b m lv i∨v.heap.size≤i):=by
 obtain⟨nv,pv,rfl,hn,hp⟩:=id hX.ex
 obtain⟨an,cn,hne,_⟩:=id hn.1
 obtain⟨ap,cp,hpe,_⟩:=id hp.1
 unfold keyV stV
 refine enter Tryz.func138 Tryz.ntmps138 rfl rfl ?_
 repeat refine c_r ?_
 rw[hne,hpe]
 simp only[List.cons_append,List.nil_append]
 refine go trivial ?_
 rw[←hne,←hpe,zai]
 refine zaM ?_
 intro v1 hE1 hs1 hA hB
 obtain⟨q,hq⟩:∃q,v.heap.size=q:=⟨_,rfl⟩
 rw[hq]at hA hB ⊢
 have dK:zal v1 (some ⟨q,0,Option.none⟩) 6=some [vs (keyS X.1).name,vi (keyS X.1).a,vi (keyS X.1).b,vi (keyS X.1).c,vi (keyS X.1).d,.bool (keyS X.1).ref]:=zah (l:=[vs (keyS X.1).name,vi (keyS X.1).a,vi (keyS X.1).b,vi (keyS X.1).c,vi (keyS X.1).d,.bool (keyS X.1).ref]) hA rfl
 have dM:zal v1 (some ⟨q+1,0,Option.none⟩) 7=some (stV nv X.1++ [pv]):=zah (l:=stV nv X.1++ [pv]) hB rfl
 have h1:=h.ext hE1
 have c0:zae v1 (some ⟨b,0,Option.none⟩)=some (.map (some m)):=zab (i:=0) h1.c rfl
 have hgood:∀p∈row.map (fun x=>(keyV (keyS x.1),Value.bool true)),∃l,keyOf Tryz.prog 250 p.1=some l:=fun p hp=>by
  obtain⟨y,hy,rfl⟩:=List.mem_map.1 hp
  exact zf7 (hrk y hy)
 refine zaA (Q:=fun e σ' ds' v'=>e= .normal∧ds'=[]∧(σ' 0= .pointer (some ⟨b,0,Option.none⟩)∧σ' 4= .pointer (some ⟨q,0,Option.none⟩)∧σ' 5= .pointer (some ⟨q+1,0,Option.none⟩))∧Ext v1 v'∧∃t,σ' 12= .bool (!t)∧t=(row.any fun y=>decide (keyS y.1=keyS X.1))) ?_ ?_
 ·refine zaH (fun _=>false) [(0,true),(1,true),(2,true),(3,true),(4,true),(5,false),(6,true)] NoS mixed (by kernel_rfl) ?_;intro gd K x hgd hx hxe hK;clear hxe
  have c0x:=zaa hx c0
  have dKx:=zac hx dK
  simp (disch:=first|omega|assumption|rfl) only[go_sem,c0x,dKx]
  refine zf2 (key:=keyV (keyS X.1)) (z:= .bool false) (MKey.of zkB) rfl rfl rfl (vq0) (vr0) ((h1.ext hx).g) (zf7 hk) hgood (fun hno=>?_) (fun u hu=>?_)
  ·refine⟨.inr (Keep.refl _ _),?_⟩
   simp (disch:=first|omega|assumption|rfl) only[go_sem]
   refine hK _ _ ?_;clear hK hgd;clear K;try clear gd
   refine⟨rfl,rfl,sc trivial,hx,false,vr0,?_⟩
   symm
   rw[List.any_eq_false]
   intro y hy e
   exact hno (keyV (keyS y.1),.bool true) (List.mem_map.2 ⟨y,hy,rfl⟩) (by rw[of_decide_eq_true e])
  ·obtain⟨y,hy,e⟩:=List.mem_map.1 hu
   simp only[Prod.mk.injEq]at e
   obtain⟨e1,rfl⟩:=e
   refine⟨.inr (Keep.refl _ _),?_⟩
   simp (disch:=first|omega|assumption|rfl) only[go_sem]
   refine hK _ _ ?_;clear hK hgd;clear K;try clear gd
   refine⟨rfl,rfl,sc trivial,hx,true,vr0,?_⟩
   symm
   rw[List.any_eq_true]
   exact⟨y,hy,decide_eq_true (ziu e1)⟩
 rintro _ σ1 _ v2 ⟨rfl,rfl,s,hE2,t,s12,ht⟩
 have hE02:=hE1.trans hE2
 have h2:=h1.ext hE2
 have hsz:=hE02.size
 cases t with
 |true=>
  refine go s12 ?_
  refine zay (by simp) rfl ⟨lv,?_,hE02.mono fun _ _ h=>h.elim,fun i hi=> .inl hi⟩
  unfold putL
  rw[if_pos ht.symm]
  exact h2
 |false=>
 have hput:putL row X=row++ [X]:=by unfold putL;rw[←ht];rfl
 have hno:∀p∈row.map (fun x=>(keyV (keyS x.1),Value.bool true)),p.1≠keyV (keyS X.1):=fun p hp e=>by
  obtain⟨y,hy,rfl⟩:=List.mem_map.1 hp
  have:=List.any_eq_false.1 ht.symm y hy
  exact this (decide_eq_true (ziu e))
 have c02:=zaa hE2 c0
 have dK2:=zac hE2 dK
 have dM2:=zac hE2 dM
 have hm2:=h2.lt (.inr (.inl rfl))
 obtain⟨l1,l2,l3,l4,l5⟩:=h2.lo
 refine go s12 ?_
 -- the key is put down
 refine zaA (Q:=fun e σ' ds' v'=>e= .normal∧ds'=[]∧(σ' 0= .pointer (some ⟨b,0,Option.none⟩)∧σ' 5= .pointer (some ⟨q+1,0,Option.none⟩))∧Keep (fun i=>i=m) v2 v'∧GM v' m ((row++ [X]).map fun x=>(keyV (keyS x.1),.bool true))) ?_ ?_
 ·refine zaH (fun i=>i==5) [(0,true),(1,true),(2,true),(3,true),(4,true),(5,false)] NoS mixed (by kernel_rfl) ?_;intro gd K x hgd hx hxe hK;clear hxe
  have c0x:=zaa hx c02
  have dKx:=zac hx dK2
  simp (disch:=first|omega|assumption|rfl) only[go_sem,s,c0x,dKx]
  refine zkg (key:=keyV (keyS X.1)) (v:= .bool true) (MKey.of zkB) rfl (vq0) (vr0) (vr0) ((h2.ext hx).g) (zf7 hk) hgood hno ?_
  intro z hgz hkz hsz
  refine⟨.inl rfl,?_⟩
  simp (disch:=first|omega|assumption|rfl) only[go_sem]
  refine hK _ _ ?_;clear hK hgd;clear K;try clear gd
  exact⟨rfl,rfl,sc s,(hx.mono fun _ _ h=>h.elim).trans hkz,by rw[List.map_append];exact hgz⟩
 clear s
 rintro _ σ2 _ v3 ⟨rfl,rfl,s,hk3,hg3⟩
 have hs3:=hk3.size
 have hmv:=(h.lt (.inr (.inl rfl))).2
 have hbv:=(h.lt (.inl rfl)).2
 have hlb:=h2.lt (.inl rfl)
 have hc3:v3.heap[b]? =some (.cells #[.map (some m),lv] 161 (0,0)):=(hk3.block _ hlb.2 (by omega)).trans h2.c
 have c1:zae v3 (some ⟨b,1,Option.none⟩)=some lv:=zab (i:=1) hc3 rfl
 have hB3:v3.heap[q+1]? =some (.cells (stV nv X.1++ [pv]).toArray 164 (0,0)):=(hk3.block _ (Array.getElem?_eq_some_iff.1 (Ext.at hE2 hB)).1 (by show¬(_=_);omega)).trans (Ext.at hE2 hB)
 have hq1:=(Array.getElem?_eq_some_iff.1 hB3).1
 have dM3:zal v3 (some ⟨q+1,0,Option.none⟩) 7=some (stV nv X.1++ [pv]):=zah (l:=stV nv X.1++ [pv]) hB3 rfl
 have hkS:Keep (setB b m lv) v2 v3:=hk3.mono fun i _ h=> .inr (.inl h)
 have ho3:Owns 7 (MetAt (setB b m lv) v3) w.heap.size v3 164 lv row:=(h2.o.keep hk3 (fun i hi=>fun e=>l5 (by rw[←e];exact hi))).to fun _ _ h=>h.turn hkS fun _ h=> .inl h
 have hX3:MetAt (setB b m lv) v3 (stV nv X.1++ [pv]) X:=(hX.turn (hE02.mono fun _ _ h=>h.elim) fun _ h=> .inl h).turn hkS fun _ h=> .inl h
 refine go s ?_
 refine zaH (fun i=>i==7||i==10) [(0,true),(1,true),(2,true),(3,true),(4,true),(5,true),(6,false),(7,false),(8,true),(9,true),(10,false)] NoS mixed (by kernel_rfl) ?_;intro gd K x hgd hx hxe hK;clear hxe
 have c1x:=zaa hx c1
 have dMx:=zac hx dM3
 unfold stV at dMx
 simp (disch:=first|omega|assumption|rfl) only[go_sem,s,c1x,dMx]
 refine za9 (zgY (setB b m lv) v3) rfl rfl rfl rfl hX3 (by decide) ?_
 intro w5 hE5 hs5 ho5
 refine⟨.inr hE5.keep,?_⟩
 simp (disch:=first|omega|assumption|rfl) only[go_sem]
 have hx5:=hx.trans hE5
 have hz5:=hx5.size
 refine zaT (zgY (setB b m lv) v3) (ho3.ext hx5) ho5.rows rfl rfl rfl rfl rfl rfl (by decide) (vq0) (vr0) (by simp;omega) (by decide) (by have:=hE02.size;have:=h.e.size;omega) ?_
 intro u w6 ho6 hE6 hk6 hb6
 refine⟨.inl rfl,?_⟩
 have hz6:=hk6.size
 have hc6:w6.heap[b]? =some (.cells #[.map (some m),lv] 161 (0,0)):=(hk6.block _ (by omega) l4).trans (Ext.at hx5 hc3)
 have hg6:=(hg3.block (hx5.block _ hg3.lt (fun h=>h))).block (hk6.block _ (by have:=hg3.lt;omega) l5)
 simp (disch:=first|omega|assumption|rfl) only[go_sem,s]
 refine zaR (P:=Tryz.prog) (t:=159) (j:=1) (u:=u) (l:=[.map (some m),lv]) hc6 (by simp) ho6.rows.isOne rfl rfl ?_
 intro w7 hz7 hc7 hk7
 refine⟨.inl rfl,?_⟩
 simp (disch:=first|omega|assumption|rfl) only[go_sem]
 refine hK _ _ ?_;clear hK hgd;clear K;try clear gd
 refine go trivial ?_
 have hk37:Keep (setB b m lv) v3 w7:=((hx5.mono fun _ _ h=>h.elim).trans (hk6.mono fun i _ h=> .inr (.inr h))).trans (hk7.mono fun i _ h=> .inl h)
 have hkv:Keep (setB b m lv) v w7:=((hE02.mono fun _ _ h=>h.elim).trans hkS).trans hk37
 have hown:∀i,some i=u.ownBlock→some i=lv.ownBlock∨v3.heap.size≤i:=fun i hi=>(hb6 i hi).imp id fun h=>by omega
 have hbo:some b≠u.ownBlock:=fun e=>by
  rcases hown b e with e|e
  ·exact l4 e
  ·omega
 have hmo:some m≠u.ownBlock:=fun e=>by
  rcases hown m e with e|e
  ·exact l5 e
  ·have:=hg3.lt;omega
 have hz7':=hk7.size
 refine zay (by simp) rfl ⟨u,?_,hkv,fun i hi=>?_⟩
 ·rw[hput]
  refine⟨hc7,hg6.block (hk7.block _ hg6.lt (by show¬(_=_);omega)),(ho6.keep hk7 fun i hi e=>hbo (by rw[←e];exact hi)).to fun _ _ h=>h.turn hk37 fun i hi=>?_,Keep.to_ext h.e rfl (fun i hi=>(h.lt hi).1) hkv,l1,l2,l3,hbo,hmo⟩
  rcases hi with hi|hi|hi
  ·exact .inl (.inl hi)
  ·exact .inl (.inr (.inl hi))
  ·exact(hown i hi).imp (fun e=> .inr (.inr e)) id
 ·rcases hi with hi|hi|hi
  ·exact .inl (.inl hi)
  ·exact .inl (.inr (.inl hi))
  ·rcases hown i hi with e|e
   ·exact .inl (.inr (.inr e))
   ·have:=hE02.size;exact .inr (by omega)
section
variable {P : Program} {d : Option Tmp} {ty : TypeId} {ps : String} {af : Array Edge} {g : Option (Nat × Bool)} {ρ : Operand → Value} {w : World} {K : Value → World → Prop}
theorem zd4{s x:Operand}{t e:TypeId}{inf:TypeInfo}{z:Value}{a:Option Addr}{u:Value}{l news:List Value}(hrow:Row w (.slice a l.length l.length) l)(hsrc:Row w u news)(hne:0<news.length)
  (ht:tyU P t=some (.slice e)) (hi:P.info? e=some inf) (hz:inf.zero=some z) (hsize:inf.size=1) (hby:inf.bytes≤100) (hzs:z.cells.size=1) (hv:ρ s= .slice a l.length l.length) (hu:ρ x=u)
  (h1:∀q∈news,one q=true) (hlen:l.length+news.length≤1000000000)
  (h:∀v' w',Own w.heap.size w' e v' (l++news)→Ext w w'→K v' w'):
  opW P ⟨d,.call ⟨.builtin .append,#[s,x],#[t,t]⟩,ty,ps,af,g⟩ ρ w K:=by
 obtain⟨a',c',e1,hc,hl⟩:=hrow
 rw[Value.slice.injEq]at e1
 obtain⟨rfl,_,rfl⟩:=e1
 cases a with
 |none=>
  have hl0:l=[]:=by
   cases l with
   |nil=>rfl
   |cons q r=>have:=hl 0 (by simp);simp[zae,adr]at this
  subst hl0
  refine zch (B:=w.heap.size) (Own.nil _ _ _) hsrc ht hi hz hsize rfl hzs hv hu h1 (by simp at hlen ⊢;omega) hby (Nat.le_refl _) ?_
  intro v' w' ho hE _ _
  exact h v' w' ho (hE w (Keep.refl _ _) (Nat.le_refl _))
 |some b=>
  obtain⟨a2,c2,rfl,hc2,hl2⟩:=hsrc
  cases a2 with
  |none=>have:=hl2 0 hne;simp[zae,adr]at this
  |some b2=>
   have hol:∀j v,l[j]? =some v→w.cell? (b.add j)=some v:=fun j v hj=>by
    obtain⟨hlt,rfl⟩:=List.getElem?_eq_some_iff.1 hj
    have:=hl j hlt
    simpa [zae,adr] using this
   have hnw:∀j v,news[j]? =some v→w.cell? (b2.add j)=some v:=fun j v hj=>by
    obtain⟨hlt,rfl⟩:=List.getElem?_eq_some_iff.1 hj
    have:=hl2 j hlt
    simpa [zae,adr] using this
   have hbm:(l.length+news.length)*inf.bytes≤1000000000*100:=Nat.mul_le_mul hlen hby
   have hr:=run_append_grow (P:=P) w t ty e inf z ht hi hz b l.length l.length l (by rw[hsize];omega) hol b2 news.length c2 news (by rw[hsize];omega) hnw (by omega) (by omega) (growslice_fits (by omega) (by omega))
   have hge:=grownCap_ge w (l.length+news.length) l.length e
   have hcm:grownCap w (l.length+news.length) l.length e≤maxLen:=grownCap_le_maxLen w (l.length+news.length) l.length e (by simp[maxLen];omega)
   refine zbW (b:= .append) (r:= .ok undef w) (fun v1 w1 hr1=>?_) ⟨_,_,by rw[hv,hu];exact hr⟩
   rw[hv,hu,hr]at hr1
   cases hr1
   refine h _ _ ⟨by rw[List.length_append];omega,.inr ⟨w.heap.size,_,_,by rw[List.length_append],Nat.le_refl _,World.alloc_heap_new w.drew _,by rw[List.length_append];exact hge,hcm,?_,?_⟩⟩ (Ext.drew_alloc w _)
   ·simp only[Array.size_append,List.size_toArray,size_zeroCells,hzs];omega
   ·simp only[Array.toList_append,List.append_assoc]
    rw[←List.append_assoc,Nat.mul_one]
    exact List.take_left
end
def zbb(p:List Int):Nat→List MetL→List zaq→List MetL
 |_,row,[]=>row
 |i,row,s::L=>zbb p (i+1) (putL row (s,p++ [(i:Int)])) L
theorem zfw(p:List Int):∀(A:List zaq) (s:zaq) (k:Nat) (row:List MetL),zbb p k row (A++ [s])=putL (zbb p k row A) (s,p++ [((k+A.length:Nat):Int)])
 | [],s,k,row=>rfl
 |a::A,s,k,row=>by
  simp only[List.cons_append,zbb,List.length_cons]
  rw[zfw p A s (k+1)]
  congr 5;omega
theorem mem_putL{row:List MetL}{x y:MetL}(h:y∈putL row x):y∈row∨y=x:=by
 unfold putL at h
 split at h
 ·exact .inl h
 ·rcases List.mem_append.1 h with h|h
  ·exact .inl h
  ·exact .inr (List.mem_singleton.1 h)
theorem putL_len{row:List MetL}{x:MetL}:(putL row x).length≤row.length+1:=by
 unfold putL;split<;>simp
theorem zdJ{p:List Int}:∀{L:List zaq} {k:Nat} {row:List MetL} {y:MetL},y∈zbb p k row L→y∈row∨(y.1∈L∧∃i:Nat,y.2=p++ [(i:Int)])
 | [],_,_,_,h=> .inl h
 |s::L,k,row,y,h=>by
  rcases zdJ (L:=L) h with h| ⟨h,i,e⟩
  ·rcases mem_putL h with h|h
   ·exact .inl h
   ·exact .inr ⟨by rw[h];simp,k,by rw[h]⟩
  ·exact .inr ⟨List.mem_cons_of_mem _ h,i,e⟩
theorem zdK{p:List Int}:∀{L:List zaq} {k:Nat} {row:List MetL},(zbb p k row L).length≤row.length+L.length
 | [],_,_=>Nat.le_refl _
 |s::L,k,row=>by
  have h1:=zdK (p:=p) (L:=L) (k:=k+1) (row:=putL row (s,p++ [(k:Int)]))
  have h2:=putL_len (row:=row) (x:=(s,p++ [(k:Int)]))
  simp only[zbb,List.length_cons];omega
theorem NmG.fold{n:Nm}(h:NmG n):NmG (zaw n):=by
 have hm:∀l∈zaw n,∃x∈n,za2 x=l:=fun l hl=>List.mem_map.1 hl
 refine⟨fun l hl e=>?_,fun l hl=>?_,by rw[zaP];exact h.len⟩
 ·obtain⟨x,hx,rfl⟩:=hm l hl
  exact h.ne x hx (List.eq_nil_of_length_eq_zero (by rw[←zdO,e];rfl))
 ·obtain⟨x,hx,rfl⟩:=hm l hl
  rw[zdO];exact h.lb x hx
structure StG(s:zaq):Prop where
 n:NmG s.name
 k:zjE (keyS s)
theorem zhB{w:World}{v:Value}{p:List Int}(hr:Row w v (p.map vi))(hlen:p.length≤1000000000):
  Fn Tryz.prog 139 #[v] w (fun u w'=>Own w.heap.size w' 3 u (p.map vi)∧Ext w w'):=by
 have hr':=hr
 obtain⟨a,c,rfl,hc,hl⟩:=hr
 refine enter Tryz.func139 Tryz.ntmps139 rfl rfl ?_
 refine go trivial ?_
 refine rq ?_;intro gd K hgd hK
 try simp only[go_sem]
 refine zhW (by rfl) (by rfl) (by rfl) ?_
 try simp only[go_sem]
 refine hK _ _ ?_;clear hK hgd;clear K;try clear gd
 repeat refine c_r ?_
 cases a with
 |none=>
  have:p=[]:=by
   cases p with
   |nil=>rfl
   |cons x L=>have:=hl 0 (by simp);simp[zae,adr]at this
  subst this
  refine go trivial ?_
  refine rt0 Tryz.ntmps139 ?_
  exact⟨Own.nil _ _ _,Keep.refl _ _⟩
 |some a=>
  refine go trivial ?_
  refine rq ?_;intro gd K hgd hK
  try simp only[go_sem]
  refine ziJ (z:=vi 0) (by rfl) (by rfl) (by rfl) (by rfl) ?_
  intro w1 hE1 hs1 ho1
  try simp only[go_sem]
  refine zch (B:=w.heap.size) ho1 (hr'.ext hE1) (by rfl) (by rfl) (by rfl) (by rfl) (by rfl) (by rfl) (by rfl) (by rfl) (fun q hq=>by obtain⟨x,_,rfl⟩:=List.mem_map.1 hq;rfl) (by simp;omega) (by decide) (by omega) ?_
  intro v' w2 ho2 hE2 _ _
  try simp only[go_sem]
  refine hK _ _ ?_;clear hK hgd;clear K;try clear gd
  refine go trivial ?_
  refine rt0 Tryz.ntmps139 ?_
  exact⟨by simpa using ho2,hE2 w hE1 (Nat.le_refl _)⟩
theorem zkr{w v:World}{b m:Nat}{lv:Value}{row:List MetL}(h:SetI w v b m lv row){bv sv u:Value}{p:List Int}{L:List zaq}(hb:RowY (setB b m lv) v bv (p.map vi))(hp:p.length≤100000)
  (hs:Rows 6 (StN u) v sv L) (hsb:∀a n c,sv= .slice (some a) n c→a.block<v.heap.size∧¬setB b m lv a.block) (hu:∀s∈L,RowY (setB b m lv) v u (s.name.map vs)) (hg:∀s∈L,StG s) (hrk:∀y∈row,zjE (keyS y.1)) (hlen:row.length+L.length≤100000000):
  Fn Tryz.prog 84 #[.pointer (some ⟨b,0,Option.none⟩),bv,sv] v (fun _ v'=>∃lv',SetI w v' b m lv' (zbb p 0 row L)∧Keep (setB b m lv) v v'∧∀i,setB b m lv' i→setB b m lv i∨v.heap.size≤i):=by
 obtain⟨a,c,rfl,_,_⟩:=hs.open
 refine enter Tryz.func84 Tryz.ntmps84 rfl rfl ?_
 refine go trivial ?_
 refine zaA (Q:=fun e σ' ds' x=>e= .exit 0∧ds'=[]∧∃lv',SetI w x b m lv' (zbb p 0 row L)∧Keep (setB b m lv) v x∧∀i,setB b m lv' i→setB b m lv i∨v.heap.size≤i) ?_ ?_
 ·refine zho L.length (fun i σ x=>(σ 11=vi i∧σ 10=vi L.length∧σ 9= .slice a L.length c∧σ 0= .pointer (some ⟨b,0,Option.none⟩)∧σ 1=bv)∧∃lv',SetI w x b m lv' (zbb p 0 row (L.take i))∧Keep (setB b m lv) v x∧∀j,setB b m lv' j→setB b m lv j∨v.heap.size≤j) ?_ ?_ ?_
  ·exact⟨⟨vr0,vq0,vq0,vq0,vq0⟩,lv,h,Keep.refl _ _,fun j hj=> .inl hj⟩
  ·rintro i σ X hi q ⟨s,lv1,hI,hk,hS⟩
   have hrows:Rows 6 (StN u) X (.slice a L.length c) L:=hs.blocks fun a' n' c' e=>hk.block _ (hsb a' n' c' e).1 (hsb a' n' c' e).2
   obtain⟨cs,hcs,rfl,hone⟩:=hrows.get hi
   have hmem:=List.getElem_mem hi
   have hux:=(hu _ hmem).turn hk hS
   have hbx:=hb.turn hk hS
   obtain⟨gN,gK⟩:=hg _ hmem
   have hml:=zdK (p:=p) (L:=L.take i) (k:=0) (row:=row)
   have hmt:=List.length_take_le i L
   have hmk:∀y∈zbb p 0 row (L.take i),zjE (keyS y.1):=fun y hy=>by
    rcases zdJ hy with hy| ⟨hy,_⟩
    ·exact hrk y hy
    ·exact(hg _ (List.mem_of_mem_take hy)).k
   have hsn:zbb p 0 row (L.take (i+1))=putL (zbb p 0 row (L.take i)) (L[i],p++ [(i:Int)]):=by
    rw[zan hi,zfw,List.length_take,Nat.zero_add,Nat.min_eq_left (by omega)]
   obtain⟨S,hSe⟩:∃S,L[i]=S:=⟨_,rfl⟩
   rw[hSe]at hcs hux gN gK hsn
   obtain⟨xa,rfl⟩:=Option.isSome_iff_exists.1 (zao hcs)
   obtain⟨xi,hxi⟩:∃xi,adr (some xa) (i*6)=some xi:=⟨_,rfl⟩
   rw[hxi]at hcs
   refine go (an3 s q hxi) ?_
   refine rq ?_;intro gd K hgd hK
   unfold stV at hcs
   try simp (disch:=first|omega|assumption|rfl) only[go_sem,s,q,hxi,hcs]
   refine zaQ (P:=Tryz.prog) (l:=[vi S.sv,u,vi S.rw,vi S.rf,.bool S.ref,vi S.fin]) rfl (zcJ (s:=S) hone) rfl rfl ?_
   intro v1 hE1 hs1 hC
   try simp only[go_sem]
   refine hK _ _ ?_;clear hK hgd;clear K;try clear gd
   obtain⟨c7,hc7⟩:∃c,X.heap.size=c:=⟨_,rfl⟩
   rw[hc7]at hC ⊢
   have hI1:=hI.ext hE1
   have hu1:=hux.1.ext hE1
   have g0:zae v1 (some ⟨c7,0,Option.none⟩)=some (vi S.sv):=zab (i:=0) hC rfl
   have g1:zae v1 (some ⟨c7,1,Option.none⟩)=some u:=zab (i:=1) hC rfl
   have g2:zae v1 (some ⟨c7,2,Option.none⟩)=some (vi S.rw):=zab (i:=2) hC rfl
   have g3:zae v1 (some ⟨c7,3,Option.none⟩)=some (vi S.rf):=zab (i:=3) hC rfl
   have g4:zae v1 (some ⟨c7,4,Option.none⟩)=some (.bool S.ref):=zab (i:=4) hC rfl
   have g5:zae v1 (some ⟨c7,5,Option.none⟩)=some (vi S.fin):=zab (i:=5) hC rfl
   have gF:=gN.fold
   have gm:=gN.m
   have lm:=gm.len
   refine go trivial ?_
   refine zaA (Q:=fun e σ' ds' v'=>e= .normal∧ds'=[]∧(σ' 7= .pointer (some ⟨c7,0,Option.none⟩)∧σ' 6=vi i∧σ' 11=vi i∧σ' 10=vi L.length∧σ' 9= .slice (some xa) L.length c∧σ' 0= .pointer (some ⟨b,0,Option.none⟩)∧σ' 1=bv)∧Ext v1 v'∧
    ∃c8,σ' 8= .pointer (some ⟨c8,0,Option.none⟩)∧v'.heap[c8]? =some (.cells #[vs (keyS S).name,vi (keyS S).a,vi (keyS S).b,vi (keyS S).c,vi (keyS S).d,.bool (keyS S).ref] 250 (0,0))) ?_ ?_
   ·refine ziM (fun i=>i==17) (.run [(0,true),(1,true),(4,true),(5,true),(6,true),(7,true),(8,true),(9,true),(10,true),(11,true),(12,true),(13,true),(14,true)] (.fork 4 [2,16] (fun i=>if i=2 then(.run [] (.fork 3 [3,16] (fun i=>if i=3 then(.run [(15,true),(16,false),(17,false)] .fin) else(.run [(3,false),(15,true),(17,false)] .fin)))) else(.run [(2,false),(3,false),(15,true),(17,false)] .fin)))) NoS mixed (by kernel_rfl) ?_;intro gd K x hgd hx hxe hK;clear hxe
    have e0:=zaa hx g0
    have e1:=zaa hx g1
    have e2:=zaa hx g2
    have e3:=zaa hx g3
    have e4:=zaa hx g4
    have e5:=zaa hx g5
    simp (disch:=first|omega|assumption|rfl) only[go_sem,e0,e1,e2,e3,e4,e5]
    refine⟨by kernel_rfl,?_⟩
    rw[show bdV Tryz.prog 248 [(0,vi S.sv),(1,vi S.rw),(2,vi S.rf),(3,vi S.fin)]=some (.agg #[vi S.sv,vi S.rw,vi S.rf,vi S.fin]) from by kernel_rfl]
    simp (disch:=first|omega|assumption|rfl) only[go_sem,e0,e1,e2,e3,e4,e5]
    have kbd:∀t:Lab,bdV Tryz.prog 250 [(0,vs t),(1,.agg #[vi S.sv,vi S.rw,vi S.rf,vi S.fin]),(2,.bool S.ref)]=some (.agg #[vs t,vi S.sv,vi S.rw,vi S.rf,vi S.fin,.bool S.ref]):=fun t=>by kernel_rfl
    have kone:∀q∈ [vs (zbh (zaw S.name)),vi S.sv,vi S.rw,vi S.rf,vi S.fin,.bool S.ref],one q=true:=fun q hq=>by
     simp at hq
     rcases hq with rfl|rfl|rfl|rfl|rfl|rfl<;>rfl
    have hux1:=hu1.ext hx
    simp only[zbM,zca];refine⟨?_,?_⟩
    ·simp (disch:=first|omega|assumption|rfl) only[go_sem]
     refine Fn.mono (zlt x u S.name hux1 gm.LB (by omega)) ?_
     rintro fv y1 ⟨hf,hy1⟩
     refine⟨.inr hy1,?_⟩
     simp (disch:=first|omega|assumption|rfl) only[go_sem]
     simp only[zbM,zca];refine⟨?_,?_⟩
     ·simp (disch:=first|omega|assumption|rfl) only[go_sem]
      refine Fn.mono (zdd y1 fv _ hf gF.lb gF.len) ?_
      rintro _ y2 ⟨rfl,hy2⟩
      refine⟨.inr hy2,?_⟩
      simp (disch:=first|omega|assumption|rfl) only[go_sem]
      refine⟨by kernel_rfl,?_⟩
      rw[kbd]
      simp (disch:=first|omega|assumption|rfl) only[go_sem]
      refine⟨.inr (Ext.alloc y2 _),?_⟩
      try simp only[go_sem]
      refine zaQ (P:=Tryz.prog) (l:=[vs (zbh (zaw S.name)),vi S.sv,vi S.rw,vi S.rf,vi S.fin,.bool S.ref]) rfl kone rfl rfl ?_
      intro y3 hy3 hs3 hB
      refine⟨.inl rfl,?_⟩
      simp (disch:=first|omega|assumption|rfl) only[go_sem]
      refine hK _ _ ?_;clear hK hgd;clear K;try clear gd
      exact⟨rfl,rfl,sc s,hx.trans (hy1.trans (hy2.trans hy3)),_,vr0,hB⟩
     ·simp (disch:=first|omega|assumption|rfl) only[go_sem]
      refine⟨.inr (Ext.alloc y1 _),?_⟩
      obtain⟨z,hz⟩:∃z,y1.alloc (.cells #[vs [],vi 0,vi 0,vi 0,vi 0,.bool false] 250 (0,0))=z:=⟨_,rfl⟩
      have hEz:Ext y1 z:=by rw[←hz];exact Ext.alloc _ _
      have hBz:=zas y1 (.cells #[vs [],vi 0,vi 0,vi 0,vi 0,.bool false] 250 (0,0))
      rw[hz]at hBz ⊢
      try simp only[go_sem]
      refine Fn.mono (zdd z fv _ (hf.ext hEz) gF.lb gF.len) ?_
      rintro _ y2 ⟨rfl,hy2⟩
      refine⟨.inr hy2,?_⟩
      simp (disch:=first|omega|assumption|rfl) only[go_sem]
      refine⟨by kernel_rfl,?_⟩
      rw[kbd]
      simp (disch:=first|omega|assumption|rfl) only[go_sem]
      refine zaK (P:=Tryz.prog) (l:=[vs (zbh (zaw S.name)),vi S.sv,vi S.rw,vi S.rf,vi S.fin,.bool S.ref]) (Ext.at hy2 hBz) rfl kone rfl rfl ?_
      intro y3 hs3 hB hk3
      refine⟨.inl rfl,?_⟩
      simp (disch:=first|omega|assumption|rfl) only[go_sem]
      refine hK _ _ ?_;clear hK hgd;clear K;try clear gd
      exact⟨rfl,rfl,sc s,hx.trans (hy1.trans (Keep.to_ext (hEz.trans hy2) rfl (fun j hj=>by omega) hk3)),_,vr0,hB⟩
    ·simp (disch:=first|omega|assumption|rfl) only[go_sem]
     refine⟨.inr (Ext.alloc x _),?_⟩
     obtain⟨z,hz⟩:∃z,x.alloc (.cells #[vs [],vi 0,vi 0,vi 0,vi 0,.bool false] 250 (0,0))=z:=⟨_,rfl⟩
     have hEz:Ext x z:=by rw[←hz];exact Ext.alloc _ _
     have hBz:=zas x (.cells #[vs [],vi 0,vi 0,vi 0,vi 0,.bool false] 250 (0,0))
     rw[hz]at hBz ⊢
     try simp only[go_sem]
     refine Fn.mono (zlt z u S.name (hux1.ext hEz) gm.LB (by omega)) ?_
     rintro fv y1 ⟨hf,hy1⟩
     refine⟨.inr hy1,?_⟩
     simp (disch:=first|omega|assumption|rfl) only[go_sem]
     refine Fn.mono (zdd y1 fv _ hf gF.lb gF.len) ?_
     rintro _ y2 ⟨rfl,hy2⟩
     refine⟨.inr hy2,?_⟩
     simp (disch:=first|omega|assumption|rfl) only[go_sem]
     refine⟨by kernel_rfl,?_⟩
     rw[kbd]
     simp (disch:=first|omega|assumption|rfl) only[go_sem]
     refine zaK (P:=Tryz.prog) (l:=[vs (zbh (zaw S.name)),vi S.sv,vi S.rw,vi S.rf,vi S.fin,.bool S.ref]) (Ext.at (hy1.trans hy2) hBz) rfl kone rfl rfl ?_
     intro y3 hs3 hB hk3
     refine⟨.inl rfl,?_⟩
     simp (disch:=first|omega|assumption|rfl) only[go_sem]
     refine hK _ _ ?_;clear hK hgd;clear K;try clear gd
     exact⟨rfl,rfl,sc s,hx.trans (Keep.to_ext (hEz.trans (hy1.trans hy2)) rfl (fun j hj=>by omega) hk3),_,vr0,hB⟩
   clear s
   rintro _ σ1 _ v2 ⟨rfl,rfl,s,hE2,c8,s8,hC8⟩
   have hE12:=hE1.trans hE2
   have hI2:=hI1.ext hE2
   have hC2:=Ext.at hE2 hC
   have d7:zal v2 (some ⟨c7,0,Option.none⟩) 6=some [vi S.sv,u,vi S.rw,vi S.rf,.bool S.ref,vi S.fin]:=zah (l:=[vi S.sv,u,vi S.rw,vi S.rf,.bool S.ref,vi S.fin]) hC2 rfl
   have d8:zal v2 (some ⟨c8,0,Option.none⟩) 6=some [vs (keyS S).name,vi (keyS S).a,vi (keyS S).b,vi (keyS S).c,vi (keyS S).d,.bool (keyS S).ref]:=zah (l:=[vs (keyS S).name,vi (keyS S).a,vi (keyS S).b,vi (keyS S).c,vi (keyS S).d,.bool (keyS S).ref]) hC8 rfl
   have hb2:RowY (setB b m lv1) v2 bv (p.map vi):=hbx.turn (hE12.mono fun _ _ h=>h.elim) fun _ h=> .inl h
   have hu2:RowY (setB b m lv1) v2 u (S.name.map vs):=hux.turn (hE12.mono fun _ _ h=>h.elim) fun _ h=> .inl h
   have hSlt:∀j,setB b m lv1 j→j<v2.heap.size:=fun j hj=>(hI2.lt hj).2
   -- the picks are laid,the state is put
   have fin:∀(y:World) (kv:Value),Ext v2 y→Own v2.heap.size y 3 kv ((p++ [(i:Int)]).map vi)→Fn Tryz.prog 138 #[.pointer (some ⟨b,0,Option.none⟩),keyV (keyS S),.agg #[vi S.sv,u,vi S.rw,vi S.rf,.bool S.ref,vi S.fin,kv]] y (fun _ v'=>∃lv',SetI w v' b m lv' (putL (zbb p 0 row (L.take i)) (S,p++ [(i:Int)]))∧Keep (setB b m lv1) y v'∧∀j,setB b m lv' j→setB b m lv1 j∨y.heap.size≤j):=fun y kv hy ho=>by
    have hxy:MetAt (setB b m lv1) y (stV u S++ [kv]) (S,p++ [(i:Int)]):=⟨u,kv,rfl,hu2.turn (hy.mono fun _ _ h=>h.elim) fun _ h=> .inl h,ho.row,fun _ a' n' c' e=>by
     obtain⟨k1,k2⟩:=ho.rowB.2 a' n' c' e
     exact⟨k2,fun hj=>by have:=hSlt _ hj;omega⟩⟩
    exact put_ok (hI2.ext hy) hxy gK hmk (by omega)
   refine go trivial ?_
   refine zaA (Q:=fun e σ' ds' v'=>e= .normal∧ds'=[]∧(σ' 11=vi i∧σ' 10=vi L.length∧σ' 9= .slice (some xa) L.length c∧σ' 0= .pointer (some ⟨b,0,Option.none⟩)∧σ' 1=bv)∧∃y lv',Ext v2 y∧SetI w v' b m lv' (putL (zbb p 0 row (L.take i)) (S,p++ [(i:Int)]))∧Keep (setB b m lv1) y v'∧∀j,setB b m lv' j→setB b m lv1 j∨y.heap.size≤j) ?_ ?_
   ·refine ziM (fun i=>i==10) (.run [(0,true),(1,true),(2,true),(3,true),(6,true)] (.fork 5 [4,7] (fun i=>if i=4 then(.run [] (.fork 4 [5,7] (fun i=>if i=5 then(.run [(7,false),(8,false),(9,true),(10,false)] .fin) else(.run [(5,false),(8,false),(9,true),(10,false)] .fin)))) else(.run [(4,false),(5,false),(8,false),(9,true),(10,false)] .fin)))) NoS mixed (by kernel_rfl) ?_;intro gd K x hgd hx hxe hK;clear hxe
    have d7x:=zac hx d7
    have d8x:=zac hx d8
    simp (disch:=first|omega|assumption|rfl) only[go_sem,s,s8,d7x,d8x]
    obtain⟨au,cu,hue,_⟩:=id hu2.1
    have mbd:∀ak nk ck,bdV Tryz.prog 164 [(0,.agg #[vi S.sv,u,vi S.rw,vi S.rf,.bool S.ref,vi S.fin]),(1,.slice ak nk ck)]=some (.agg #[vi S.sv,u,vi S.rw,vi S.rf,.bool S.ref,vi S.fin,.slice ak nk ck]):=by
     rw[hue];intro ak nk ck;kernel_rfl
    have hbx2:=hb2.1.ext hx
    simp only[zbM,zca];refine⟨?_,?_⟩
    ·simp (disch:=first|omega|assumption|rfl) only[go_sem]
     refine Fn.mono (zhB hbx2 (by omega)) ?_
     rintro _ y1 ⟨hc,hy1⟩
     obtain⟨ac,cc,rfl,hcc,hcl⟩:=id hc.row
     refine⟨.inr hy1,?_⟩
     simp (disch:=first|omega|assumption|rfl) only[go_sem]
     simp only[zbM,zca];refine⟨?_,?_⟩
     ·simp (disch:=first|omega|assumption|rfl) only[go_sem]
      refine Fn.mono (P_ci.Clip_ok hcc) ?_
      rintro _ y2 ⟨rfl,hy2⟩
      replace hy2:=hy2.symm
      subst hy2
      refine⟨.inr (Keep.refl _ _),?_⟩
      simp (disch:=first|omega|assumption|rfl) only[go_sem]
      refine zcD (z:=vi 0) rfl rfl rfl rfl rfl ?_
      intro y3 hy3 hs3 ho3
      refine⟨.inr hy3.keep,?_⟩
      replace hcl:=fun j hj=>zaa hy3 (hcl j hj)
      simp (disch:=first|omega|assumption|rfl) only[go_sem]
      have hfull:Row y3 (.slice ac (p.map vi).length (p.map vi).length) (p.map vi):=⟨ac,_,rfl,Nat.le_refl _,hcl⟩
      refine zd4 hfull ho3.row (by simp) rfl rfl rfl rfl (by decide) rfl (vq0) (vr0) (fun q hq=>by rw[List.mem_singleton.1 hq];rfl) (by simp;omega) ?_
      intro kv2 y ho hy9
      refine⟨.inr hy9.keep,?_⟩
      obtain⟨ak,ck,hke⟩:=ho.slice
      rw[hke]
      simp (disch:=first|omega|assumption|rfl) only[go_sem]
      refine⟨by kernel_rfl,?_⟩
      rw[mbd,←hke]
      simp (disch:=first|omega|assumption|rfl) only[go_sem]
      have hxy:=(hy1.trans hy3).trans hy9
      refine Fn.mono (fin y kv2 (hx.trans hxy) (by have:=(hx.trans (hy1.trans hy3)).size;have h2:=ho.mono this;rwa [←List.map_singleton (f:=vi),←List.map_append]at h2)) ?_
      rintro _ v9 ⟨lv9,hI9,hk9,hS9⟩
      refine⟨.inl rfl,?_⟩
      simp (disch:=first|omega|assumption|rfl) only[go_sem]
      refine hK _ _ ?_;clear hK hgd;clear K;try clear gd
      exact⟨rfl,rfl,sc s,y,lv9,hx.trans hxy,hI9,hk9,hS9⟩
     ·simp (disch:=first|omega|assumption|rfl) only[go_sem]
      refine zcD (z:=vi 0) rfl rfl rfl rfl rfl ?_
      intro y3 hy3 hs3 ho3
      refine⟨.inr hy3.keep,?_⟩
      replace hcl:=fun j hj=>zaa hy3 (hcl j hj)
      simp (disch:=first|omega|assumption|rfl) only[go_sem]
      refine Fn.mono (P_ci.Clip_ok hcc) ?_
      rintro _ y2 ⟨rfl,hy2⟩
      replace hy2:=hy2.symm
      subst hy2
      refine⟨.inr (Keep.refl _ _),?_⟩
      simp (disch:=first|omega|assumption|rfl) only[go_sem]
      have hfull:Row y3 (.slice ac (p.map vi).length (p.map vi).length) (p.map vi):=⟨ac,_,rfl,Nat.le_refl _,hcl⟩
      refine zd4 hfull ho3.row (by simp) rfl rfl rfl rfl (by decide) rfl (vq0) (vr0) (fun q hq=>by rw[List.mem_singleton.1 hq];rfl) (by simp;omega) ?_
      intro kv2 y ho hy9
      refine⟨.inr hy9.keep,?_⟩
      obtain⟨ak,ck,hke⟩:=ho.slice
      rw[hke]
      simp (disch:=first|omega|assumption|rfl) only[go_sem]
      refine⟨by kernel_rfl,?_⟩
      rw[mbd,←hke]
      simp (disch:=first|omega|assumption|rfl) only[go_sem]
      have hxy:=(hy1.trans hy3).trans hy9
      refine Fn.mono (fin y kv2 (hx.trans hxy) (by have:=(hx.trans (hy1.trans hy3)).size;have h2:=ho.mono this;rwa [←List.map_singleton (f:=vi),←List.map_append]at h2)) ?_
      rintro _ v9 ⟨lv9,hI9,hk9,hS9⟩
      refine⟨.inl rfl,?_⟩
      simp (disch:=first|omega|assumption|rfl) only[go_sem]
      refine hK _ _ ?_;clear hK hgd;clear K;try clear gd
      exact⟨rfl,rfl,sc s,y,lv9,hx.trans hxy,hI9,hk9,hS9⟩
    ·simp (disch:=first|omega|assumption|rfl) only[go_sem]
     refine zcD (z:=vi 0) rfl rfl rfl rfl rfl ?_
     intro y3 hy3 hs3 ho3
     refine⟨.inr hy3.keep,?_⟩
     simp (disch:=first|omega|assumption|rfl) only[go_sem]
     refine Fn.mono (zhB (hbx2.ext hy3) (by omega)) ?_
     rintro _ y1 ⟨hc,hy1⟩
     obtain⟨ac,cc,rfl,hcc,hcl⟩:=id hc.row
     refine⟨.inr hy1,?_⟩
     simp (disch:=first|omega|assumption|rfl) only[go_sem]
     refine Fn.mono (P_ci.Clip_ok hcc) ?_
     rintro _ y2 ⟨rfl,hy2⟩
     replace hy2:=hy2.symm
     subst hy2
     refine⟨.inr (Keep.refl _ _),?_⟩
     replace ho3:=ho3.ext hy1
     simp (disch:=first|omega|assumption|rfl) only[go_sem]
     have hfull:Row y1 (.slice ac (p.map vi).length (p.map vi).length) (p.map vi):=⟨ac,_,rfl,Nat.le_refl _,hcl⟩
     refine zd4 hfull ho3.row (by simp) rfl rfl rfl rfl (by decide) rfl (vq0) (vr0) (fun q hq=>by rw[List.mem_singleton.1 hq];rfl) (by simp;omega) ?_
     intro kv2 y ho hy9
     refine⟨.inr hy9.keep,?_⟩
     obtain⟨ak,ck,hke⟩:=ho.slice
     rw[hke]
     simp (disch:=first|omega|assumption|rfl) only[go_sem]
     refine⟨by kernel_rfl,?_⟩
     rw[mbd,←hke]
     simp (disch:=first|omega|assumption|rfl) only[go_sem]
     have hxy:=(hy3.trans hy1).trans hy9
     refine Fn.mono (fin y kv2 (hx.trans hxy) (by have:=(hx.trans (hy3.trans hy1)).size;have h2:=ho.mono this;rwa [←List.map_singleton (f:=vi),←List.map_append]at h2)) ?_
     rintro _ v9 ⟨lv9,hI9,hk9,hS9⟩
     refine⟨.inl rfl,?_⟩
     simp (disch:=first|omega|assumption|rfl) only[go_sem]
     refine hK _ _ ?_;clear hK hgd;clear K;try clear gd
     exact⟨rfl,rfl,sc s,y,lv9,hx.trans hxy,hI9,hk9,hS9⟩
   clear s s8
   rintro _ σ2 _ v3 ⟨rfl,rfl,s,y,lv9,hy,hI9,hk9,hS9⟩
   refine go (an2 s q) ?_
   have hz:=hy.size
   have hkx:=hk.size
   have hz1:=hE12.size
   have hSv:∀j,setB b m lv1 j→setB b m lv j∨v.heap.size≤j:=hS
   refine⟨rfl,sc (an2 s q),lv9,by rw[hsn];exact hI9,?_,fun j hj=>?_⟩
   ·have hky:Keep (setB b m lv1) X v3:=((hE12.trans hy).mono fun _ _ h=>h.elim).trans hk9
    refine⟨hky.os.trans hk.os,hky.tape.trans hk.tape,hky.output.trans hk.output,Nat.le_trans hk.size hky.size,fun j hj hn=>?_,Nat.le_trans hk.drawn hky.drawn⟩
    exact(hky.block j (by omega) (fun hc=>(hSv j hc).elim hn (by omega))).trans (hk.block j hj hn)
   ·rcases hS9 j hj with h|h
    ·exact hSv j h
    ·exact .inr (by omega)
  ·rintro σ x q ⟨s,lv1,hI,hk,hS⟩
   rw[List.take_length]at hI
   refine go (an2 s q) ?_
   exact⟨rfl,rfl,lv1,hI,hk,hS⟩
 rintro _ σ _ x ⟨rfl,rfl,lv1,hI,hk,hS⟩
 refine go trivial ?_
 exact zay (by simp) rfl ⟨lv1,hI,hk,hS⟩
theorem zdN{α:Type}{xs ys:List α}{i:Nat}(h1:i<xs.length)(h2:i<ys.length)(ht:xs.take i=ys.take i)(he:xs[i]=ys[i]):xs.take (i+1)=ys.take (i+1):=by
 rw[zan h1,zan h2,ht,he]
theorem zlq(w:World){a b:Value}{xs ys:List Lab}(ha:Row w a (xs.map vs))(hb:Row w b (ys.map vs))(hl:xs.length≤1000000000000000):
  Fn Tryz.prog 114 #[a,b] w (fun v w'=>Ext w w'∧∃t,v= .bool t∧(t=true→xs=ys)):=by
 obtain⟨a1,c1,rfl,_,h1⟩:=ha
 obtain⟨a2,c2,rfl,_,h2⟩:=hb
 simp only[List.length_map,List.getElem_map]at h1 h2 ⊢
 refine enter Tryz.func114 Tryz.ntmps114 rfl rfl ?_
 repeat refine c_r ?_
 refine rg0 ?_
 repeat refine c_r ?_
 by_cases hn:(xs.length:Int)=(ys.length:Int)
 rotate_left
 ·refine rg1 (decide_eq_false hn) ?_
  repeat refine c_r ?_
  refine wt Bool.not_false ?_
  repeat (first|refine c_r ?_|refine rg0 ?_)
  refine rt0 Tryz.ntmps114 ?_
  exact⟨Keep.refl _ _,_,rfl,fun h=>by cases h⟩
 refine rg1 (decide_eq_true hn) ?_
 repeat refine c_r ?_
 refine wf Bool.not_true ?_
 have hn':xs.length=ys.length:=by omega
 repeat refine c_r ?_
 refine rg0 ?_
 repeat refine c_r ?_
 refine zar (fun m σ ds A=>ds=[]∧∃(i:Nat),i+m=xs.length∧σ 5=vi i∧σ 0= .slice a1 xs.length c1∧σ 1= .slice a2 ys.length c2∧Ext w A∧xs.take i=ys.take i) xs.length ?_ ?_
 ·exact⟨rfl,0,by omega,vr0,vq0,vq0,Keep.refl _ _,rfl⟩
 rintro m σ ds A ⟨rfl,i,him,s5,s0,s1,hEA,ht⟩
 repeat refine c_r ?_
 refine rg2 s5 s0 ?_
 repeat refine c_r ?_
 refine wc0 ?_ ?_
 ·intro hlt
  simp only[decide_eq_true_eq]at hlt
  have hi:i<xs.length:=by omega
  have hi2:i<ys.length:=by omega
  have hi0:(0:Int)≤(i:Int):=by omega
  have hi1:(i:Int)<(ys.length:Int):=by omega
  have hi1':(i:Int)+1=((i+1:Nat):Int):=by push_cast;rfl
  have g1:=h1 i hi
  have g2:=h2 i hi2
  obtain⟨x1,rfl⟩:=Option.isSome_iff_exists.1 (zag g1)
  obtain⟨x2,rfl⟩:=Option.isSome_iff_exists.1 (zag g2)
  repeat refine c_r ?_
  refine zaH (fun _=>false) [(0,true),(1,true),(2,true),(3,true),(4,true),(5,true),(6,true),(7,true),(8,true)] NoS mixed (by kernel_rfl) ?_;intro gd K x hgd hx hxe hK;clear hxe
  have g1x:=zaa (hEA.trans hx) g1
  have g2x:=zaa (hEA.trans hx) g2
  simp (disch:=first|omega|assumption|rfl) only[go_sem,s5,s0,s1,hi0,hlt,hi1,g1x,g2x,Nat.mul_one]
  refine hK _ _ ?_;clear hK hgd;clear K;try clear gd
  by_cases he:xs[i]=ys[i]
  ·repeat refine c_r ?_
   refine wf (an2 (decide_eq_true he) Bool.not_true) ?_
   repeat refine c_r ?_
   refine rg2 s5 hi1' ?_
   repeat refine c_r ?_
   exact⟨m - 1,by omega,rfl,i+1,by omega,vq0,(vq1 s0),(vq1 s1),hEA.trans hx,zdN hi hi2 ht he⟩
  ·repeat refine c_r ?_
   refine wt (an2 (decide_eq_false he) Bool.not_false) ?_
   repeat (first|refine c_r ?_|refine rg0 ?_)
   refine rt0 Tryz.ntmps114 ?_
   exact⟨hEA.trans hx,_,rfl,fun h=>by cases h⟩
 ·intro hge
  simp only[decide_eq_false_iff_not]at hge
  repeat (first|refine c_r ?_|refine rg0 ?_)
  refine rt0 Tryz.ntmps114 ?_
  refine⟨hEA,_,rfl,fun _=>?_⟩
  rwa [List.take_of_length_le (by omega),List.take_of_length_le (by omega)]at ht
structure DatN(d:DatL):Prop where
 nn:d.names.length≤1000000000000000
 ns:∀n∈d.names,n.length≤1000000000000000
 nu:d.nums.length≤1000000000000000
 nt:d.texts.length≤1000000000000000
theorem DatOk.n{d:DatL}(h:DatOk d):DatN d:=⟨h.nn,fun n hn=>(h.names n hn).2,h.nu,h.nt⟩
theorem Is4_ok(w:World){ca cb:List Value}{a b:DatL}(ha:DatAt w ca a)(hb:DatAt w cb b)(ka:DatN a):
  Fn Tryz.prog 115 #[.agg ca.toArray,.agg cb.toArray] w (fun v w'=>Ext w w'∧∃t,v= .bool t∧(t=true→a=b)):=by
 obtain⟨nm,nu,tx,rw1,rfl,hnm,hnu,htx,hrw⟩:=ha.ex
 obtain⟨mm,mu,ux,rw2,rfl,hmm,hmu,hux,hrx⟩:=hb.ex
 obtain⟨V1,⟨a1,c1,rfl,_,ga⟩,lV1,hV1⟩:=hnm
 obtain⟨V2,⟨a2,c2,rfl,_,gb⟩,lV2,hV2⟩:=hmm
 obtain⟨a3,c3,rfl,_,gc⟩:=hnu
 obtain⟨a4,c4,rfl,_,gd4⟩:=hmu
 obtain⟨a5,c5,htxe,_⟩:=id htx
 obtain⟨a6,c6,huxe,_⟩:=id hux
 obtain⟨a7,c7,rfl,_,gr⟩:=hrw
 obtain⟨a8,c8,rfl,_,gs⟩:=hrx
 simp only[List.length_map,List.getElem_map]at gc gd4 gr gs htxe huxe ⊢
 refine enter Tryz.func115 Tryz.ntmps115 rfl rfl ?_
 repeat refine c_r ?_
 rw[htxe,huxe]
 refine rg0 ?_
 repeat refine c_r ?_
 rw[zai]
 refine zaM ?_
 intro w1 hE1 hs1 hA hB
 have p0:zae w1 (some ⟨w.heap.size,0,Option.none⟩)=some (vi a.ty):=zab hA rfl
 have p1:zae w1 (some ⟨w.heap.size,1,Option.none⟩)=some (.slice a1 V1.length c1):=zab hA rfl
 have p2:zae w1 (some ⟨w.heap.size,2,Option.none⟩)=some (.slice a3 a.nums.length c3):=zab hA rfl
 have p3:zae w1 (some ⟨w.heap.size,3,Option.none⟩)=some (.slice a5 a.texts.length c5):=zab hA rfl
 have p4:zae w1 (some ⟨w.heap.size,4,Option.none⟩)=some (.slice a7 a.raw.length c7):=zab hA rfl
 have q0:zae w1 (some ⟨w.heap.size+1,0,Option.none⟩)=some (vi b.ty):=zab hB rfl
 have q1:zae w1 (some ⟨w.heap.size+1,1,Option.none⟩)=some (.slice a2 V2.length c2):=zab hB rfl
 have q2:zae w1 (some ⟨w.heap.size+1,2,Option.none⟩)=some (.slice a4 b.nums.length c4):=zab hB rfl
 have q3:zae w1 (some ⟨w.heap.size+1,3,Option.none⟩)=some (.slice a6 b.texts.length c6):=zab hB rfl
 have q4:zae w1 (some ⟨w.heap.size+1,4,Option.none⟩)=some (.slice a8 b.raw.length c8):=zab hB rfl
 repeat refine c_r ?_
 refine zaA (Q:=fun e σ' ds' v'=>e= .normal∧ds'=[]∧v'=w1∧σ' 2= .pointer (some ⟨w.heap.size,0,Option.none⟩)∧σ' 3= .pointer (some ⟨w.heap.size+1,0,Option.none⟩)∧∃t,σ' 47= .bool t∧(t=false→a.ty=b.ty∧V1.length=V2.length∧a.nums.length=b.nums.length∧a.texts.length=b.texts.length∧a.raw=b.raw)) ?_ ?_
 ·by_cases e0:a.ty=b.ty
  rotate_left
  ·refine rgg [(5,12),(14,21),(23,30),(32,39)] (an5 p0 q0 Nat.add_zero (decide_eq_false e0) Bool.not_false) ?_
   exact⟨rfl,rfl,rfl,vq0,vq0,_,vr0,fun h=>by cases h⟩
  by_cases e1:(V1.length:Int)=(V2.length:Int)
  rotate_left
  ·refine rgg [(5,12),(14,21),(23,30),(32,39)] (an9 p0 q0 Nat.add_zero (decide_eq_true e0) Bool.not_true p1 q1 Nat.zero_add (decide_eq_false e1)) ?_
   exact⟨rfl,rfl,rfl,vq0,vq0,_,vr0,fun h=>by cases h⟩
  by_cases e2:(a.nums.length:Int)=(b.nums.length:Int)
  rotate_left
  ·refine rgg [(5,12),(14,21),(23,30),(32,39)] (an4 (an9 p0 q0 Nat.add_zero (decide_eq_true e0) Bool.not_true p1 q1 Nat.zero_add (decide_eq_true e1)) p2 q2 (decide_eq_false e2)) ?_
   exact⟨rfl,rfl,rfl,vq0,vq0,_,vr0,fun h=>by cases h⟩
  by_cases e3:(a.texts.length:Int)=(b.texts.length:Int)
  rotate_left
  ·refine rgg [(5,12),(14,21),(23,30),(32,39)] (an7 (an9 p0 q0 Nat.add_zero (decide_eq_true e0) Bool.not_true p1 q1 Nat.zero_add (decide_eq_true e1)) p2 q2 (decide_eq_true e2) p3 q3 (decide_eq_false e3)) ?_
   exact⟨rfl,rfl,rfl,vq0,vq0,_,vr0,fun h=>by cases h⟩
  refine rq ?_;intro gd K hgd hK
  have hg5:∀n σ b,zat gd n σ (some (5,b))=zaj (ev n σ (.tmp 12)) b:=(fun n σ b=>by rw[zad,show gd 5=some 12 from(by rw[hgd];rfl)];rfl);have hg14:∀n σ b,zat gd n σ (some (14,b))=zaj (ev n σ (.tmp 21)) b:=(fun n σ b=>by rw[zad,show gd 14=some 21 from(by rw[hgd];rfl)];rfl);have hg23:∀n σ b,zat gd n σ (some (23,b))=zaj (ev n σ (.tmp 30)) b:=(fun n σ b=>by rw[zad,show gd 23=some 30 from(by rw[hgd];rfl)];rfl);have hg32:∀n σ b,zat gd n σ (some (32,b))=zaj (ev n σ (.tmp 39)) b:=(fun n σ b=>by rw[zad,show gd 32=some 39 from(by rw[hgd];rfl)];rfl)
  try simp (disch:=first|omega|assumption|rfl) only[go_sem,p0,q0,Nat.add_zero,decide_eq_true e0,Bool.not_true,p1,q1,Nat.zero_add,decide_eq_true e1,p2,q2,decide_eq_true e2,p3,q3,decide_eq_true e3,p4,↓hg5,↓hg14,↓hg23,↓hg32]
  refine zbP (l:=a.raw) rfl rfl rfl (vq0) (fun j hj=>zaa hE1 (gr j hj)) ?_
  try simp (disch:=first|omega|assumption|rfl) only[go_sem,q4,Nat.zero_add,↓hg5,↓hg14,↓hg23,↓hg32]
  refine zbP (l:=b.raw) rfl rfl rfl (vq0) (fun j hj=>zaa hE1 (gs j hj)) ?_
  try simp (disch:=first|omega|assumption|rfl) only[go_sem,↓hg5,↓hg14,↓hg23,↓hg32]
  refine hK _ _ ?_;clear hK hgd;clear K;try clear gd
  exact⟨rfl,rfl,rfl,vq0,vq0,_,vr0,fun h=>⟨e0,by omega,by omega,by omega,by simpa using h⟩⟩
 rintro _ σ1 _ w2 ⟨rfl,rfl,rfl,s2,s3,t,s47,ht⟩
 repeat refine c_r ?_
 cases t with
 |true=>
  refine wt s47 ?_
  repeat (first|refine c_r ?_|refine rg0 ?_)
  refine rt0 Tryz.ntmps115 ?_
  exact⟨hE1,_,rfl,fun h=>by cases h⟩
 |false=>
 refine wf s47 ?_
 obtain⟨e0,e1,e2,e3,e4⟩:=ht rfl
 clear s47 ht
 have kn:=ka.nn
 have ku:=ka.nu
 have kt:=ka.nt
 repeat refine c_r ?_
 refine rg0 ?_
 repeat refine c_r ?_
 refine zar (fun m σ ds A=>ds=[]∧∃(i:Nat),i+m=V1.length∧σ 5=vi i∧σ 2= .pointer (some ⟨w.heap.size,0,Option.none⟩)∧σ 3= .pointer (some ⟨w.heap.size+1,0,Option.none⟩)∧Ext w2 A∧a.names.take i=b.names.take i) V1.length ?_ ?_
 ·exact⟨rfl,0,by omega,vr0,(vq1 s2),(vq1 s3),Keep.refl _ _,rfl⟩
 clear s2 s3
 rintro m σ ds A ⟨rfl,i,him,s5,s2,s3,hEA,ht⟩
 have p1A:=zaa hEA p1
 have q1A:=zaa hEA q1
 repeat refine c_r ?_
 refine rg4 s5 s2 p1A Nat.zero_add ?_
 repeat refine c_r ?_
 refine wc0 ?_ ?_
 ·intro hlt
  simp only[decide_eq_true_eq]at hlt
  have hi:i<V1.length:=by omega
  have hi2:i<V2.length:=by omega
  have hi0:(0:Int)≤(i:Int):=by omega
  have hi1:(i:Int)<(V2.length:Int):=by omega
  have hi1':(i:Int)+1=((i+1:Nat):Int):=by push_cast;rfl
  have g1:=ga i hi
  have g2:=gb i hi2
  have r1:=hV1 i hi (by omega)
  have r2:=hV2 i hi2 (by omega)
  have kl:=ka.ns _ (List.getElem_mem (show i<a.names.length by omega))
  obtain⟨x1,rfl⟩:=Option.isSome_iff_exists.1 (zag g1)
  obtain⟨x2,rfl⟩:=Option.isSome_iff_exists.1 (zag g2)
  repeat refine c_r ?_
  refine zaH (fun _=>false) [(0,true),(1,true),(2,true),(3,true),(4,true),(5,true),(6,true),(7,true),(8,true),(9,true),(10,false),(11,true)] NoS mixed (by kernel_rfl) ?_;intro gd K x hgd hx hxe hK;clear hxe
  have g1x:=zaa (hE1.trans (hEA.trans hx)) g1
  have g2x:=zaa (hE1.trans (hEA.trans hx)) g2
  have p1x:=zaa hx p1A
  have q1x:=zaa hx q1A
  simp (disch:=first|omega|assumption|rfl) only[go_sem,s5,s2,s3,hi0,hlt,hi1,g1x,g2x,p1x,q1x,Nat.mul_one,Nat.zero_add]
  refine Fn.mono (zlq x (r1.ext (hE1.trans (hEA.trans hx))) (r2.ext (hE1.trans (hEA.trans hx))) kl) ?_
  rintro _ y ⟨hy,t,rfl,ht2⟩
  refine⟨.inr hy,?_⟩
  simp (disch:=first|omega|assumption|rfl) only[go_sem]
  refine hK _ _ ?_;clear hK hgd;clear K;try clear gd
  cases t with
  |true=>
   repeat refine c_r ?_
   refine wf Bool.not_true ?_
   repeat refine c_r ?_
   refine rg2 s5 hi1' ?_
   repeat refine c_r ?_
   exact⟨m - 1,by omega,rfl,i+1,by omega,vq0,(vq1 s2),(vq1 s3),(hEA.trans hx).trans hy,zdN _ _ ht (ht2 rfl)⟩
  |false=>
   repeat refine c_r ?_
   refine wt Bool.not_false ?_
   repeat (first|refine c_r ?_|refine rg0 ?_)
   refine rt0 Tryz.ntmps115 ?_
   exact⟨hE1.trans ((hEA.trans hx).trans hy),_,rfl,fun h=>by cases h⟩
 intro hge
 simp only[decide_eq_false_iff_not]at hge
 have hnames:a.names=b.names:=by rwa [List.take_of_length_le (by omega),List.take_of_length_le (by omega)]at ht
 clear him hge s5 ht p1A q1A
 repeat refine c_r ?_
 refine rg0 ?_
 repeat refine c_r ?_
 refine zar (fun m σ ds B=>ds=[]∧∃(i:Nat),i+m=a.nums.length∧σ 6=vi i∧σ 2= .pointer (some ⟨w.heap.size,0,Option.none⟩)∧σ 3= .pointer (some ⟨w.heap.size+1,0,Option.none⟩)∧Ext w2 B∧a.nums.take i=b.nums.take i) a.nums.length ?_ ?_
 ·exact⟨rfl,0,by omega,vr0,(vq1 s2),(vq1 s3),hEA,rfl⟩
 clear s2 s3 hEA
 rintro m2 σ3 ds3 B ⟨rfl,i,him,s6,s2,s3,hEB,ht⟩
 have p2B:=zaa hEB p2
 have q2B:=zaa hEB q2
 repeat refine c_r ?_
 refine rg4 s6 s2 p2B Nat.zero_add ?_
 repeat refine c_r ?_
 refine wc0 ?_ ?_
 ·intro hlt
  simp only[decide_eq_true_eq]at hlt
  have hi:i<a.nums.length:=by omega
  have hi2:i<b.nums.length:=by omega
  have hi0:(0:Int)≤(i:Int):=by omega
  have hi1:(i:Int)<(b.nums.length:Int):=by omega
  have hi1':(i:Int)+1=((i+1:Nat):Int):=by push_cast;rfl
  have g1:=gc i hi
  have g2:=gd4 i hi2
  obtain⟨x1,rfl⟩:=Option.isSome_iff_exists.1 (zag g1)
  obtain⟨x2,rfl⟩:=Option.isSome_iff_exists.1 (zag g2)
  repeat refine c_r ?_
  refine zaH (fun _=>false) [(0,true),(1,true),(2,true),(3,true),(4,true),(5,true),(6,true),(7,true),(8,true),(9,true),(10,true)] NoS mixed (by kernel_rfl) ?_;intro gd K x hgd hx hxe hK;clear hxe
  have g1x:=zaa (hE1.trans (hEB.trans hx)) g1
  have g2x:=zaa (hE1.trans (hEB.trans hx)) g2
  have p2x:=zaa hx p2B
  have q2x:=zaa hx q2B
  simp (disch:=first|omega|assumption|rfl) only[go_sem,s6,s2,s3,hi0,hlt,hi1,g1x,g2x,p2x,q2x,Nat.mul_one,Nat.zero_add]
  refine hK _ _ ?_;clear hK hgd;clear K;try clear gd
  by_cases he:a.nums[i]=b.nums[i]
  ·repeat refine c_r ?_
   refine wf (an2 (decide_eq_true he) Bool.not_true) ?_
   repeat refine c_r ?_
   refine rg2 s6 hi1' ?_
   repeat refine c_r ?_
   exact⟨m2 - 1,by omega,rfl,i+1,by omega,vq0,(vq1 s2),(vq1 s3),hEB.trans hx,zdN hi hi2 ht he⟩
  ·repeat refine c_r ?_
   refine wt (an2 (decide_eq_false he) Bool.not_false) ?_
   repeat (first|refine c_r ?_|refine rg0 ?_)
   refine rt0 Tryz.ntmps115 ?_
   exact⟨hE1.trans (hEB.trans hx),_,rfl,fun h=>by cases h⟩
 intro hge
 simp only[decide_eq_false_iff_not]at hge
 have hnums:a.nums=b.nums:=by rwa [List.take_of_length_le (by omega),List.take_of_length_le (by omega)]at ht
 have p3B:=zaa hEB p3
 have q3B:=zaa hEB q3
 rw[←htxe]at p3B
 rw[←huxe]at q3B
 repeat refine c_r ?_
 refine rc (an5 s2 s3 p3B q3B Nat.zero_add) (zlq B (htx.ext (hE1.trans hEB)) (hux.ext (hE1.trans hEB)) kt) ?_
 rintro _ y ⟨hy,t,rfl,ht2⟩
 refine re trivial ?_
 repeat refine c_r ?_
 refine rt0 Tryz.ntmps115 ?_
 refine⟨hE1.trans (hEB.trans hy),_,rfl,fun h=>?_⟩
 obtain⟨t1,n1,u1,x1,r1⟩:=a
 obtain⟨t2,n2,u2,x2,r2⟩:=b
 dsimp only at e0 hnames hnums ht2 e4
 rw[e0,hnames,hnums,ht2 h,e4]
theorem Is5_ok(w:World){av bv:Value}{xs ys:List RecL}(ha:Rows 7 (RecAt w) w av xs)(hb:Rows 7 (RecAt w) w bv ys)(ko:∀r∈xs,r.owner.length≤1000000000000000∧DatN r.dat)(hl:xs.length≤1000000000):
  Fn Tryz.prog 63 #[av,bv] w (fun v w'=>Ext w w'∧∃t,v= .bool t∧(t=true→xs=ys)):=by
 obtain⟨a1,c1,rfl,_,h1⟩:=ha.open
 obtain⟨a2,c2,rfl,_,h2⟩:=hb.open
 refine enter Tryz.func63 Tryz.ntmps63 rfl rfl ?_
 repeat refine c_r ?_
 refine rg0 ?_
 repeat refine c_r ?_
 by_cases hn:(xs.length:Int)=(ys.length:Int)
 rotate_left
 ·refine rg1 (decide_eq_false hn) ?_
  repeat refine c_r ?_
  refine wt Bool.not_false ?_
  repeat (first|refine c_r ?_|refine rg0 ?_)
  refine rt0 Tryz.ntmps63 ?_
  exact⟨Keep.refl _ _,_,rfl,fun h=>by cases h⟩
 refine rg1 (decide_eq_true hn) ?_
 repeat refine c_r ?_
 refine wf Bool.not_true ?_
 repeat refine c_r ?_
 refine rg0 ?_
 repeat refine c_r ?_
 refine zar (fun m σ ds A=>ds=[]∧∃(i:Nat),i+m=xs.length∧σ 5=vi i∧σ 0= .slice a1 xs.length c1∧σ 1= .slice a2 ys.length c2∧Ext w A∧xs.take i=ys.take i) xs.length ?_ ?_
 ·exact⟨rfl,0,by omega,vr0,vq0,vq0,Keep.refl _ _,rfl⟩
 rintro m σ ds A ⟨rfl,i,him,s5,s0,s1,hEA,ht⟩
 repeat refine c_r ?_
 refine rg2 s5 s0 ?_
 repeat refine c_r ?_
 refine wc0 ?_ ?_
 ·intro hlt
  simp only[decide_eq_true_eq]at hlt
  have hi:i<xs.length:=by omega
  have hi2:i<ys.length:=by omega
  have hi0:(0:Int)≤(i:Int):=by omega
  have hi1:(i:Int)<(ys.length:Int):=by omega
  have hi1':(i:Int)+1=((i+1:Nat):Int):=by push_cast;rfl
  obtain⟨ca,hca,hRa⟩:=h1 i hi
  obtain⟨cb,hcb,hRb⟩:=h2 i hi2
  obtain⟨ko1,ko2⟩:=ko _ (List.getElem_mem hi)
  obtain⟨ra,hra⟩:∃r,xs[i]=r:=⟨_,rfl⟩
  obtain⟨rb,hrb⟩:∃r,ys[i]=r:=⟨_,rfl⟩
  rw[hra]at hRa ko1 ko2
  rw[hrb]at hRb
  obtain⟨oa,da,rfl,o1,e1⟩:=hRa.ex
  obtain⟨ob,db,rfl,o2,e2⟩:=hRb.ex
  have e1':=e1
  have e2':=e2
  obtain⟨na1,na2,na3,na4,rfl,_⟩:=e1.ex
  obtain⟨nb1,nb2,nb3,nb4,rfl,_⟩:=e2.ex
  obtain⟨x1,rfl⟩:=Option.isSome_iff_exists.1 (zao hca)
  obtain⟨x2,rfl⟩:=Option.isSome_iff_exists.1 (zao hcb)
  obtain⟨y1,hy1⟩:∃y,adr (some x1) (i*7)=some y:=⟨_,rfl⟩
  obtain⟨y2,hy2⟩:∃y,adr (some x2) (i*7)=some y:=⟨_,rfl⟩
  rw[hy1]at hca
  rw[hy2]at hcb
  obtain⟨u1,hu1⟩:∃y,adr (some y1) 1=some y:=⟨_,rfl⟩
  obtain⟨u2,hu2⟩:∃y,adr (some y2) 1=some y:=⟨_,rfl⟩
  obtain⟨z1,hz1⟩:∃y,adr (some y1) 2=some y:=⟨_,rfl⟩
  obtain⟨z2,hz2⟩:∃y,adr (some y2) 2=some y:=⟨_,rfl⟩
  repeat refine c_r ?_
  refine zaH (fun _=>false) [(0,true),(1,true),(2,true),(3,true),(4,true),(5,true),(6,true),(7,true),(8,true),(9,true),(10,false),(11,true),(12,true),(13,true),(14,true),(15,true),(16,true),(17,true),(18,true),(19,true),(20,true),(21,true),(22,true),(23,true),(24,true),(25,true),(26,true),(27,true),(28,true),(29,true),(30,true),(31,true),(32,true),(33,true),(34,true),(35,true),(36,false),(37,true),(38,true)] NoS mixed (by kernel_rfl) ?_;intro gd K x hgd hx hxe hK;clear hxe
  have hg12:∀n σ b,zat gd n σ (some (12,b))=zaj (ev n σ (.tmp 29)) b:=(fun n σ b=>by rw[zad,show gd 12=some 29 from(by rw[hgd];rfl)];rfl);have hg25:∀n σ b,zat gd n σ (some (25,b))=zaj (ev n σ (.tmp 42)) b:=(fun n σ b=>by rw[zad,show gd 25=some 42 from(by rw[hgd];rfl)];rfl)
  have hW:=hEA.trans hx
  have f0:zae x (adr (some y1) 0)=some oa:=zax (zac hW hca) rfl
  have f1:zae x (adr (some y1) 1)=some (v32 ra.ttl):=zax (zac hW hca) rfl
  have f2:zal x (adr (some y1) 2) 5=some [vi ra.dat.ty,na1,na2,na3,na4]:=za5 (m:=2) (k:=5) (zac hW hca)
  have g0:zae x (adr (some y2) 0)=some ob:=zax (zac hW hcb) rfl
  have g1:zae x (adr (some y2) 1)=some (v32 rb.ttl):=zax (zac hW hcb) rfl
  have g2:zal x (adr (some y2) 2) 5=some [vi rb.dat.ty,nb1,nb2,nb3,nb4]:=za5 (m:=2) (k:=5) (zac hW hcb)
  rw[zaz]at f0 g0
  rw[hu1]at f1
  rw[hu2]at g1
  rw[hz1]at f2
  rw[hz2]at g2
  simp (disch:=first|omega|assumption|rfl) only[go_sem,s5,s0,s1,hi0,hlt,hi1,hy1,hy2,hu1,hu2,hz1,hz2,zaz,f0,f1,f2,g0,g1,g2]
  refine Fn.mono (zlq x (o1.ext hW) (o2.ext hW) ko1) ?_
  rintro _ y ⟨hy,t,rfl,ht2⟩
  refine⟨.inr hy,?_⟩
  cases t with
  |false=>
   simp (disch:=first|omega|assumption|rfl) only[go_sem,Bool.not_false,zbd,↓hg12,↓hg25]
   refine hK _ _ ?_;clear hK hgd;clear K;try clear gd
   repeat refine c_r ?_
   refine wt trivial ?_
   repeat (first|refine c_r ?_|refine rg0 ?_)
   refine rt0 Tryz.ntmps63 ?_
   exact⟨hW.trans hy,_,rfl,fun h=>by cases h⟩
  |true=>
  have f1y:=zaa hy f1
  have f2y:=zac hy f2
  have g1y:=zaa hy g1
  have g2y:=zac hy g2
  by_cases htt:ra.ttl=rb.ttl
  rotate_left
  ·simp (disch:=first|omega|assumption|rfl) only[go_sem,Bool.not_true,zbd,s5,s0,s1,hi0,hlt,hi1,hy1,hy2,hu1,hu2,f1y,g1y,decide_eq_false htt,Bool.not_false,↓hg12,↓hg25]
   refine hK _ _ ?_;clear hK hgd;clear K;try clear gd
   repeat refine c_r ?_
   refine wt trivial ?_
   repeat (first|refine c_r ?_|refine rg0 ?_)
   refine rt0 Tryz.ntmps63 ?_
   exact⟨hW.trans hy,_,rfl,fun h=>by cases h⟩
  simp (disch:=first|omega|assumption|rfl) only[go_sem,Bool.not_true,zbd,s5,s0,s1,hi0,hlt,hi1,hy1,hy2,hu1,hu2,f1y,g1y,decide_eq_true htt,hz1,hz2,f2y,g2y,↓hg12,↓hg25]
  refine Fn.mono (Is4_ok y (e1'.ext (hW.trans hy)) (e2'.ext (hW.trans hy)) ko2) ?_
  rintro _ z ⟨hz,t,rfl,ht4⟩
  refine⟨.inr hz,?_⟩
  simp (disch:=first|omega|assumption|rfl) only[go_sem,zbd,↓hg12,↓hg25]
  refine hK _ _ ?_;clear hK hgd;clear K;try clear gd
  have hWz:=(hW.trans hy).trans hz
  cases t with
  |false=>
   repeat refine c_r ?_
   refine wt Bool.not_false ?_
   repeat (first|refine c_r ?_|refine rg0 ?_)
   refine rt0 Tryz.ntmps63 ?_
   exact⟨hWz,_,rfl,fun h=>by cases h⟩
  |true=>
   have hrr:xs[i]=ys[i]:=by
    rw[hra,hrb]
    obtain⟨r1,r2,r3⟩:=ra
    obtain⟨r4,r5,r6⟩:=rb
    dsimp only at ht2 htt ht4
    rw[ht2 rfl,htt,ht4 rfl]
   repeat refine c_r ?_
   refine wf Bool.not_true ?_
   repeat refine c_r ?_
   refine rg2 s5 hi1' ?_
   repeat refine c_r ?_
   exact⟨m - 1,by omega,rfl,i+1,by omega,vq0,(vq1 s0),(vq1 s1),hWz,zdN hi hi2 ht hrr⟩
 ·intro hge
  simp only[decide_eq_false_iff_not]at hge
  repeat (first|refine c_r ?_|refine rg0 ?_)
  refine rt0 Tryz.ntmps63 ?_
  refine⟨hEA,_,rfl,fun _=>?_⟩
  rwa [List.take_of_length_le (by omega),List.take_of_length_le (by omega)]at ht
def zcN(to:Nm):List (Nm×List DatL)→List DatL
 | []=>[]
 |g::l=>if zaw g.1=zaw to then g.2 else zcN to l
theorem zg1{to:Nm}:∀{l:List (Nm×List DatL)},zcN to l=[]∨∃g∈l,zcN to l=g.2
 | []=> .inl rfl
 |g::l=>by
  unfold zcN
  split
  ·exact .inr ⟨g,List.mem_cons_self ..,rfl⟩
  ·rcases zg1 (to:=to) (l:=l) with h| ⟨x,hx,h⟩
   ·exact .inl h
   ·exact .inr ⟨x,List.mem_cons_of_mem _ hx,h⟩
theorem Hints_ok{w0 w:World}(hE0:Ext w0 w){cs:List Value}{r:ResL}{hv:Value}{to:Nm}(hr:ResAt w0 w cs r)(kr:zli r)(hh:Row w hv (to.map vs))(mh:NmS to):
  Fn Tryz.prog 206 #[.agg cs.toArray,hv] w (fun v w'=>Ext w w'∧Rows 5 (DatAt w0) w' v (zcN to r.glue)):=by
 obtain⟨dv,nv,gv,rfl,h1,h2,h3⟩:=hr.ex
 obtain⟨a1,c1,hdv,_⟩:=h1.open
 obtain⟨a2,c2,hnv,_⟩:=id h2
 obtain⟨ag,cg,rfl,hcg,hgg⟩:=h3.open
 have gl:=kr.gl
 have ml:=mh.len
 refine enter Tryz.func206 Tryz.ntmps206 rfl rfl ?_
 repeat refine c_r ?_
 rw[hdv,hnv]
 refine rg0 ?_
 rw[←hdv,←hnv]
 repeat refine c_r ?_
 refine zaB ?_
 intro w1 hE1 hs1 hA
 have p4:zae w1 (some ⟨w.heap.size,4,Option.none⟩)=some (.slice ag r.glue.length cg):=zab hA rfl
 repeat refine c_r ?_
 refine rg2 p4 Nat.zero_add ?_
 repeat refine c_r ?_
 refine zar (fun m σ ds A=>ds=[]∧∃(i:Nat),i+m=r.glue.length∧σ 10=vi i∧σ 9=vi r.glue.length∧σ 8= .slice ag r.glue.length cg∧σ 1=hv∧zcN to r.glue=zcN to (r.glue.drop i)∧Ext w A) r.glue.length ?_ ?_
 ·exact⟨rfl,0,by omega,vr0,vq0,vq0,vq0,rfl,hE1⟩
 rintro m σ ds A ⟨rfl,i,him,s10,s9,s8,s1,hgo,hEA⟩
 repeat refine c_r ?_
 refine rg2 s10 s9 ?_
 repeat refine c_r ?_
 refine wc0 ?_ ?_
 ·intro hlt
  simp only[decide_eq_true_eq]at hlt
  have hi:i<r.glue.length:=by omega
  have hi0:(0:Int)≤(i:Int):=by omega
  have hi1':(i:Int)+1=((i+1:Nat):Int):=by push_cast;rfl
  obtain⟨cs,hcs,hG⟩:=hgg i hi
  obtain⟨g,hge⟩:∃g,r.glue[i]=g:=⟨_,rfl⟩
  rw[hge]at hG
  obtain⟨gh,gdv,rfl,g1,g2⟩:=hG
  have kg:=kr.g g (hge▸List.getElem_mem hi)
  have kgl:=kg.1.len
  obtain⟨xz,rfl⟩:=Option.isSome_iff_exists.1 (zao hcs)
  obtain⟨xi,hxi⟩:∃xi,adr (some xz) (i*2)=some xi:=⟨_,rfl⟩
  rw[hxi]at hcs
  have d:=zac hEA hcs
  rw[List.drop_eq_getElem_cons hi,hge,show zcN to (g::r.glue.drop (i+1))=if zaw g.1=zaw to then g.2 else zcN to (r.glue.drop (i+1)) from rfl]at hgo
  repeat refine c_r ?_
  refine rq ?_;intro gd K hgd hK
  try simp (disch:=first|omega|assumption|rfl) only[go_sem,s10,s8,hi0,hlt,hxi,d]
  refine zaQ (P:=Tryz.prog) (l:=[gh,gdv]) rfl (zdX g1.isOne g2.isOne) rfl rfl ?_
  intro A1 hE6 hs6 hB6
  try simp only[go_sem]
  refine hK _ _ ?_;clear hK hgd;clear K;try clear gd
  have q0:zae A1 (some ⟨A.heap.size,0,Option.none⟩)=some gh:=zab hB6 rfl
  have q1:zae A1 (some ⟨A.heap.size,1,Option.none⟩)=some gdv:=zab hB6 rfl
  have hE06:=hE0.trans (hEA.trans hE6)
  repeat refine c_r ?_
  refine rc (an3 q0 s1 Nat.add_zero) (zd9 A1 gh hv g.1 to (g1.ext hE06) (hh.ext (hEA.trans hE6)) kg.1.lb mh.lb (by omega) (by omega)) ?_
  rintro _ A2 ⟨rfl,hE7⟩
  refine re trivial ?_
  have q1':=zaa hE7 q1
  have hE67:=hE6.trans hE7
  repeat refine c_r ?_
  by_cases hs:zaw g.1=zaw to
  ·refine wt (decide_eq_true hs) ?_
   rw[if_pos hs]at hgo
   repeat refine c_r ?_
   refine rg2 q1' Nat.zero_add ?_
   repeat refine c_r ?_
   refine rt0 Tryz.ntmps206 ?_
   rw[hgo]
   exact⟨hEA.trans hE67,g2.ext (hEA.trans hE67)⟩
  ·refine wf (decide_eq_false hs) ?_
   rw[if_neg hs]at hgo
   repeat refine c_r ?_
   refine rg2 s10 hi1' ?_
   repeat refine c_r ?_
   exact⟨m - 1,by omega,rfl,i+1,by omega,vq0,(vq1 s9),(vq1 s8),(vq1 s1),hgo,hEA.trans hE67⟩
 ·intro hge
  simp only[decide_eq_false_iff_not]at hge
  rw[List.drop_eq_nil_of_le (by omega)]at hgo
  repeat refine c_r ?_
  refine rg0 ?_
  repeat refine c_r ?_
  refine rt0 Tryz.ntmps206 ?_
  rw[hgo]
  exact⟨hEA,Rows.nil _ _ _⟩
def ofR(N:NetL)(r:ResL)(x:Nm):List Int:=zks N x (zcN x r.glue)
def encM(N:NetL)(r:ResL)(n0:Nat)(x:Nm)(U:Nat→Prop)(A:World)(args:Array Value):Prop:=∃v B,args=#[v]∧Row A v ((ofR N r x).map vi)∧BlkB B A v∧(∀b,U b→b<B)∧n0≤B
theorem meant_ok(w:World){a b c d e f g h k:Value}:
  Fn Tryz.prog 151 #[.agg #[a,b,c,d],.agg #[e,f,g,h,k]] w (fun v w'=>v= .func (.func 203) #[] #[.pointer (some ⟨w.heap.size+1,0,Option.none⟩),.pointer (some ⟨w.heap.size,0,Option.none⟩)]∧Ext w w'∧w'.heap.size=w.heap.size+2∧
   w'.heap[w.heap.size]? =some (.cells #[a,b,c,d] 25 (0,0))∧w'.heap[w.heap.size+1]? =some (.cells #[e,f,g,h,k] 184 (0,0))):=by
 refine enter Tryz.func151 Tryz.ntmps151 rfl rfl ?_
 repeat refine c_r ?_
 refine rg0 ?_
 repeat refine c_r ?_
 rw[zai]
 refine zaM ?_
 intro w1 hE1 hs1 hA hC
 refine rg0 ?_
 repeat refine c_r ?_
 refine rt0 Tryz.ntmps151 ?_
 exact⟨rfl,hE1,hs1,hA,hC⟩
theorem meantIt{w0 w1 W0:World}{C:Nat→Prop}{br bn:Nat}{cs cr:List Value}{N:NetL}{r:ResL}(hE01:Ext w0 w1)(hE1:Ext w1 W0)(hb:W0.heap[br]? =some (.cells cr.toArray 184 (0,0)))(hn:W0.heap[bn]? =some (.cells cs.toArray 25 (0,0)))
  (hC:∀b,C b→w1.heap.size≤b∧b<W0.heap.size) (hCb:¬C br) (hCn:¬C bn) (hN:NetAt w0 cs N) (hG:NetZ N) (hr:ResAt w0 w1 cr r) (kr:zli r) (hgood:∀n∈zau 2 r.data,NmM n):
  IterU Tryz.prog 203 #[.pointer (some ⟨br,0,Option.none⟩),.pointer (some ⟨bn,0,Option.none⟩)] W0 W0.heap.size C 0 (fun pre x=>∃suf,zau 2 r.data=pre++x::suf) (fun xs=>xs=zau 2 r.data) (encM N r):=by
 intro lp J Jx W hW hnW hJ hJx hY h0
 have hr0:=hr
 have hN0:=hN
 have hn4:=hN.one
 obtain⟨dv,nv,gv,rfl,h1,h2,h3⟩:=hr.ex
 have dl:=kr.dl
 obtain⟨a1,c1,hdv,_⟩:=h1.open
 have hs1:=hE1.size
 have hbl:=(Array.getElem?_eq_some_iff.1 hb).1
 have hnl:=(Array.getElem?_eq_some_iff.1 hn).1
 have hE1W:=hE1.trans hW
 have pd:zae W (some ⟨br,1,Option.none⟩)=some dv:=zab (Ext.at hW hb) rfl
 refine enter Tryz.func203 Tryz.ntmps203 rfl rfl ?_
 repeat refine c_r ?_
 refine rq ?_;intro gd K hgd hK
 try simp (disch:=first|omega|assumption|rfl) only[go_sem,pd]
 refine⟨by kernel_rfl,?_⟩
 rw[hdv,show bdV Tryz.prog 340 [(1,vi 2),(3,.slice a1 r.data.length c1)]=some (.agg #[.slice Option.none 0 0,vi 2,v32 0,.slice a1 r.data.length c1]) from by kernel_rfl,←hdv]
 try simp only[go_sem]
 refine Fn.mono (zfR (t:=2) (ow:= .slice Option.none 0 0) (tl:=v32 0) (hE01.trans hE1W) rfl rfl (h1.ext hE1W) dl) ?_
 rintro tv X ⟨hEX,htv,htb⟩
 obtain⟨aT,cT,rfl,hcT,hgT⟩:=htv.open
 obtain⟨L,hL⟩:∃L,zau 2 r.data=L:=⟨_,rfl⟩
 rw[hL]at htv htb hcT hgood hY ⊢
 simp only[hL]at hgT
 try simp only[go_sem]
 refine hK _ _ ?_;clear hK hgd;clear K;try clear gd
 have hLl:L.length≤1000000000:=by
  rw[←hL];unfold zau
  split
  ·have:=List.length_filterMap_le (fun d:DatL=>d.names.head?) r.data;omega
  ·simp
 have hsX:=hEX.size
 repeat refine c_r ?_
 refine zar (fun m σ ds' v=>ds'=[]∧∃(i:Nat) (U:Nat→Prop),i+m=L.length∧σ 11=vi i∧σ 10=vi L.length∧σ 9= .slice aT L.length cT∧σ 0= .func (.yield lp) #[] #[]∧σ 1= .pointer (some ⟨br,0,Option.none⟩)∧σ 2= .pointer (some ⟨bn,0,Option.none⟩)∧
  J (L.take i) U v∧(∀b,U b→X.heap.size≤b∧b<v.heap.size)∧X.heap.size≤v.heap.size∧KeepB W0.heap.size C W v∧Ext w1 v∧Rows 1 (NmC w0) v (.slice aT L.length cT) L) L.length ?_ ?_
 ·exact⟨rfl,0,NoS,by omega,vr0,vq0,vq0,vq0,vq0,vq0,hJ _ _ _ _ h0 (hEX.mono (fun _ _ h=>h.elim)),fun b h=>h.elim,Nat.le_refl _,zcv hEX (by omega),hE1W.trans hEX,htv⟩
 rintro m σ ds' v ⟨rfl,i,U,him,s11,s10,s9,s0,s1,s2,hj,hU,hsv,hKB,hEv,hrow⟩
 repeat refine c_r ?_
 refine rg2 s11 s10 ?_
 repeat refine c_r ?_
 refine wc0 ?_ ?_
 ·intro hlt
  simp only[decide_eq_true_eq]at hlt
  have hi:i<L.length:=by omega
  have hi0:(0:Int)≤(i:Int):=by omega
  have hi1':(i:Int)+1=((i+1:Nat):Int):=by push_cast;rfl
  obtain⟨h,hh⟩:∃h,L[i]=h:=⟨_,rfl⟩
  have hgh:NmM h:=hh▸hgood _ (List.getElem_mem hi)
  obtain⟨cs',hcs,hv,rfl,hvr⟩:=hrow.get hi
  rw[hh]at hvr
  have hcell:zae v (adr aT i)=some hv:=by
   have:=zax hcs (j:=0) rfl
   rwa [Nat.mul_one,zaz]at this
  obtain⟨xT,rfl⟩:=Option.isSome_iff_exists.1 (zag hcell)
  have hbv:v.heap[br]? =some (.cells #[vi r.kind,dv,nv,.bool r.wild,gv] 184 (0,0)):=(hKB.block _ (by omega) hCb).trans (Ext.at hW hb)
  have hnv:v.heap[bn]? =some (.cells cs.toArray 25 (0,0)):=(hKB.block _ (by omega) hCn).trans (Ext.at hW hn)
  have db:=zah (n:=5) (l:=[vi r.kind,dv,nv,.bool r.wild,gv]) hbv rfl
  have dn:=zah (n:=4) hnv hn4.1.symm
  have hE0v:=hE01.trans hEv
  repeat refine c_r ?_
  refine rg5 s9 s11 hi0 hlt hcell ?_
  repeat refine c_r ?_
  refine zaH (fun i=>i==7) [(0,true),(1,true),(2,true),(3,true),(4,true),(5,false),(6,false),(7,false),(8,true)] NoS mixed (by kernel_rfl) ?_;intro gd K x hgd hx hxe hK;clear hxe
  have dbx:=zac hx db
  have dnx:=zac hx dn
  simp (disch:=first|omega|assumption|rfl) only[go_sem,s0,s1,s2,dbx,dnx]
  have hE0x:=hE0v.trans hx
  refine Fn.mono (Hints_ok hE0x ((hr0.ext hEv).ext hx) kr (hvr.ext hE0x) hgh.s) ?_
  rintro gv' y1 ⟨hy1,hg1⟩
  refine⟨.inr hy1,?_⟩
  have dny:=zac hy1 dnx
  have hgl:(zcN h r.glue).length≤1000000000:=by
   rcases zg1 (to:=h) (l:=r.glue) with e| ⟨g,hg,e⟩
   ·rw[e];simp
   ·rw[e];exact(kr.g g hg).2.2
  simp (disch:=first|omega|assumption|rfl) only[go_sem]
  refine Fn.mono (Meant_ok (hE0x.trans hy1) hN0 hG hvr hgh hg1 hgl) ?_
  rintro mv y2 ⟨hy2,hm2,hB2⟩
  refine⟨.inr hy2,?_⟩
  have hvy:=(hx.trans hy1).trans hy2
  have hsy:=hvy.size
  have hsy1:=(hx.trans hy1).size
  simp (disch:=first|omega|assumption|rfl) only[go_sem,s0]
  refine Yld.mono (hY (L.take i) U h y2 _ ⟨L.drop (i+1),by rw[←hh,←List.drop_eq_getElem_cons,List.take_append_drop]⟩ (hJ _ _ _ _ hj (hvy.mono (fun _ _ h=>h.elim))) (by omega) (hKB.trans (zcv hvy (by have:=hKB.size;omega))) ⟨mv,_,rfl,hm2,hB2,fun b hb=>by have:=(hU b hb).2;omega,by omega⟩) ?_
  rintro u z (⟨rfl,U',hj',hU',hkr⟩| ⟨rfl,hjx⟩)
  ·refine⟨.inl rfl,?_⟩
   simp (disch:=first|omega|assumption|rfl) only[go_sem]
   refine hK _ _ ?_;clear hK hgd;clear K;try clear gd
   have hzs:=hkr.size
   have hCb:∀b,W.heap.size≤b→b<X.heap.size→¬(C b∨U b):=fun b h1 h2 h3=>by
    rcases h3 with h3|h3
    ·have:=hC b h3;omega
    ·have:=hU b h3;omega
   have hrowz:Rows 1 (NmC w0) z (.slice (some xT) L.length cT) L:=(hrow.ext hvy).blocks fun a n c hv=>by
    have h1:=htb a n c hv
    exact hkr.block _ (by omega) (.inr (by omega)) (hCb _ (by omega) h1.2)
   have hKz:KeepB W0.heap.size C W z:=(hKB.trans (zcv hvy (by have:=hKB.size;omega))).trans ⟨hkr.os,hkr.tape,hkr.output,hkr.size,fun b hb hc=>hkr.block b (by omega) (.inl hb) (fun h=>by
    rcases h with h|h
    ·exact hc h
    ·have:=hU b h;omega),hkr.drawn⟩
   have htk:L.take (i+1)=L.take i++ [h]:=by rw[zan hi,hh]
   repeat refine c_r ?_
   refine wf trivial ?_
   repeat refine c_r ?_
   refine rg2 s11 hi1' ?_
   repeat refine c_r ?_
   refine⟨m - 1,by omega,rfl,i+1,U',by omega,vq0,(vq1 s10),(vq1 s9),(vq1 s0),(vq1 s1),(vq1 s2),by rw[htk];exact hj',fun b hb=>?_,by omega,hKz,zcL hE1W hKz (by omega) (fun b hb=>(hC b hb).1),hrowz⟩
   rcases hU' b hb with h|h
   ·have:=hU b h;omega
   ·omega
  ·refine⟨.inl rfl,?_⟩
   simp (disch:=first|omega|assumption|rfl) only[go_sem]
   refine hK _ _ ?_;clear hK hgd;clear K;try clear gd
   repeat refine c_r ?_
   refine wt trivial ?_
   repeat refine c_r ?_
   refine zay (by simp) rfl (.inr ⟨_,_,⟨L.drop (i+1),by rw[←hh,←List.drop_eq_getElem_cons,List.take_append_drop,hL]⟩,hjx⟩)
 ·intro hge
  simp only[decide_eq_false_iff_not]at hge
  repeat refine c_r ?_
  refine zay (by simp) rfl (.inl ⟨_,U,rfl,?_⟩)
  rw[List.take_of_length_le (by omega)]at hj
  rw[hL];exact hj
def zfQ(N:NetL)(s:zaq)(to:Nm):List zaq:=if s.rw≥N.rw then endS s 7 else if (zdg N s.sv to).2=true then [{s with rw:=s.rw+1,name:=to,ref:=false}] else zdj N {s with rw:=s.rw+1,name:=to,ref:=false}
def zd6(N:NetL)(r:ResL)(s:zaq)(h:Nm):List zaq:=(if ((ofR N r h).length:Int)=0 then endS s 9 else [])++(ofR N r h).map fun k=>{s with sv:=k,ref:=true}
def zfu(N:NetL)(s:zaq)(r:ResL):List zaq:=if s.rf≥N.rf then endS s 8 else(zau 2 r.data).flatMap (zd6 N r {s with rf:=s.rf+1})
theorem alias_ok{w0 w:World}(hE0:Ext w0 w){cs:List Value}{N:NetL}(hN:NetAt w0 cs N)(hG:NetZ N){nv tv:Value}{s:zaq}{to:Nm}(hr:Row w nv (s.name.map vs))(ht:Row w tv (to.map vs))(mt:NmM to)(b0:0≤s.rw)(b1:s.rw≤1000000):
  Fn Tryz.prog 95 #[.agg (stV nv s).toArray,.agg cs.toArray,tv] w (fun v w'=>Ext w w'∧StF w.heap.size (fun u=>u=nv∨u=tv) w' v (zfQ N s to)):=by
 have hN0:=hN
 obtain⟨hv,rv,rfl,hh,hro⟩:=hN.ex
 obtain⟨ah,ch,hhv,_⟩:=hh.open
 obtain⟨ar,cr,hrv,_⟩:=id hro
 obtain⟨an,cn,hnv,_⟩:=id hr
 have t1:=ht.isOne
 obtain⟨at1,ct,htv,_⟩:=id ht
 unfold stV
 refine enter Tryz.func95 Tryz.ntmps95 rfl rfl ?_
 repeat refine c_r ?_
 rw[hhv,hrv,hnv]
 refine rg0 ?_
 rw[←hhv,←hrv,←hnv]
 repeat refine c_r ?_
 rw[zai]
 refine zaM ?_
 intro w1 hE1 hs1 hA hB
 have p2:zae w1 (some ⟨w.heap.size,2,Option.none⟩)=some (vi s.rw):=zab hA rfl
 have q2:zae w1 (some ⟨w.heap.size+1,2,Option.none⟩)=some (vi N.rw):=zab hB rfl
 have dA:zal w1 (some ⟨w.heap.size,0,Option.none⟩) 6=some (stV nv s):=zah hA rfl
 repeat refine c_r ?_
 unfold zfQ
 by_cases hge:s.rw≥N.rw
 ·rw[if_pos hge]
  refine rg4 p2 q2 Nat.zero_add (decide_eq_true hge) ?_
  repeat refine c_r ?_
  refine wt trivial ?_
  repeat refine c_r ?_
  refine rc dA (zcw w1 (hr.ext hE1) s 7) ?_
  rintro v w2 ⟨hE2,hv2⟩
  refine re trivial ?_
  repeat refine c_r ?_
  refine rt0 Tryz.ntmps95 ?_
  exact⟨hE1.trans hE2,(zb6 hv2 (hr.ext (hE1.trans hE2))).mono hE1.size fun u h=> .inl h⟩
 rw[if_neg hge]
 refine rg4 p2 q2 Nat.zero_add (decide_eq_false hge) ?_
 repeat refine c_r ?_
 refine wf trivial ?_
 repeat refine c_r ?_
 refine rq ?_;intro gd K hgd hK
 try simp (disch:=first|omega|assumption|rfl) only[go_sem,p2,Nat.zero_add]
 refine zaR (P:=Tryz.prog) (t:=3) (j:=2) (u:=vi (s.rw+1)) (l:=stV nv s) hA (by show 2<6;decide) rfl rfl rfl ?_
 intro w2 hs2 hA2 hk2
 try simp only[go_sem]
 refine hK _ _ ?_;clear hK hgd;clear K;try clear gd
 repeat refine c_r ?_
 refine rq ?_;intro gd K hgd hK
 try simp only[go_sem]
 refine zaR (P:=Tryz.prog) (t:=27) (j:=1) (u:=tv) hA2 (by show 1<6;decide) t1 rfl rfl ?_
 intro w3 hs3 hA3 hk3
 try simp only[go_sem]
 refine zaR (P:=Tryz.prog) (t:=4) (j:=4) (u:= .bool false) hA3 (by show 4<6;decide) rfl rfl rfl ?_
 intro w4 hs4 hA4 hk4
 try simp only[go_sem]
 refine hK _ _ ?_;clear hK hgd;clear K;try clear gd
 obtain⟨s2,hs2e⟩:∃s2:zaq,{s with rw:=s.rw+1,name:=to,ref:=false}=s2:=⟨_,rfl⟩
 have hA4':w4.heap[w.heap.size]? =some (.cells (stV tv s2).toArray 80 (0,0)):=by rw[←hs2e];exact hA4
 have hE4:Ext w w4:=Keep.to_ext (Keep.to_ext (Keep.to_ext hE1 rfl (fun b hb=>by omega) hk2) rfl (fun b hb=>by omega) hk3) rfl (fun b hb=>by omega) hk4
 have hB4:=(hk4.block _ (by omega) (by omega)).trans ((hk3.block _ (by omega) (by omega)).trans ((hk2.block _ (by omega) (by omega)).trans hB))
 have dN:zal w4 (some ⟨w.heap.size+1,0,Option.none⟩) 4=some [hv,rv,vi N.rw,vi N.rf]:=zah hB4 rfl
 have r0:zae w4 (some ⟨w.heap.size,0,Option.none⟩)=some (vi s.sv):=by rw[←hs2e]at hA4';exact zab hA4' rfl
 have hE04:=hE0.trans hE4
 have mn:s2.name=to:=by rw[←hs2e]
 rw[hs2e]
 repeat refine c_r ?_
 refine rc (an3 dN r0 Nat.add_zero) (zle (s:=s.sv) hE04 hN0 hG (ht.ext hE4) mt) ?_
 rintro _ w5 ⟨rfl,hE5⟩
 refine re trivial ?_
 have hE45:=hE4.trans hE5
 have dS:zal w5 (some ⟨w.heap.size,0,Option.none⟩) 6=some (stV tv s2):=zac hE5 (zah hA4' rfl)
 have dN5:=zac hE5 dN
 repeat refine c_r ?_
 cases hb:(zdg N s.sv to).2 with
 |true=>
  rw[if_pos rfl]
  refine wt trivial ?_
  repeat refine c_r ?_
  refine rq ?_;intro gd K hgd hK
  try simp (disch:=first|omega|assumption|rfl) only[go_sem,dS]
  refine za9 (C:=StN tv) (zco tv) (l:=stV tv s2) (a:=s2) (by rfl) (by rfl) (by rfl) (by rfl) ⟨rfl,t1⟩ (by decide) ?_
  intro w6 hE6 hs6 ho6
  try simp only[go_sem]
  refine hK _ _ ?_;clear hK hgd;clear K;try clear gd
  repeat refine c_r ?_
  refine rt0 Tryz.ntmps95 ?_
  exact⟨hE45.trans hE6,ho6.blk.mono hE45.size,tv,.inr rfl,ho6.rows,fun x hx=>by rw[List.mem_singleton.1 hx,mn];exact ht.ext (hE45.trans hE6)⟩
 |false=>
  rw[if_neg Bool.false_ne_true]
  refine wf trivial ?_
  repeat refine c_r ?_
  refine rc (an2 dS dN5) (zii (hE0.trans hE45) hN0 hG.rl (ht.ext hE45) s2) ?_
  rintro v w6 ⟨hE6,hv6⟩
  refine re trivial ?_
  repeat refine c_r ?_
  refine rt0 Tryz.ntmps95 ?_
  exact⟨hE45.trans hE6,hv6.2.mono hE45.size,tv,.inr rfl,hv6.1,fun x hx=>by
   obtain⟨k,_,rfl⟩:=List.mem_map.1 hx
   show Row _ _ (s2.name.map vs)
   rw[mn];exact ht.ext (hE45.trans hE6)⟩
theorem zkq{N:NetL}{r:ResL}{s x:zaq}{h:Nm}(hx:x∈zd6 N r s h):x.name=s.name:=by
 unfold zd6 at hx
 rcases List.mem_append.1 hx with hx|hx
 ·split at hx
  ·exact zis hx
  ·cases hx
 ·obtain⟨k,_,rfl⟩:=List.mem_map.1 hx;rfl
theorem zkl{N:NetL}{r:ResL}{h:Nm}:(ofR N r h).length≤N.hosts.length:=zeS
theorem zg0{N:NetL}{r:ResL}{s:zaq}{h:Nm}:(zd6 N r s h).length≤N.hosts.length+1:=by
 have:=zkl (N:=N) (r:=r) (h:=h)
 unfold zd6 endS
 split<;>simp<;>omega
theorem zge{α β:Type}{f:α→List β}{k:Nat}(hf:∀a,(f a).length≤k):∀l:List α,(l.flatMap f).length≤l.length*k
 | []=>by simp
 |a::l=>by
  have h1:=hf a
  have h2:=zge hf l
  rw[List.flatMap_cons,List.length_append,List.length_cons,Nat.succ_mul]
  omega
structure SRf(w Y:World)(b7 b3 n0:Nat)(nv iv:Value)(U U':Nat→Prop)(s2:zaq)(L:List Int)(ov:Value)(G:List zaq)(v:World):Prop where
 h7:v.heap[b7]? =some (.cells #[ov] 92 (0,0))
 own:Owns 6 (StN nv) n0 v 80 ov G
 u1:∀b,some b=ov.ownBlock→U' b
 u2:∀b,U' b→U b∨(Y.heap.size≤b∧b<v.heap.size)
 kb:KeepB Y.heap.size (fun b=>b=b7∨U b) Y v
 e:Ext w v
 h3:v.heap[b3]? =some (.cells (stV nv s2).toArray 80 (0,0))
 riv:Row v iv (L.map vi)
 blk:∃B,BlkB B Y iv∧(∀b,U b→b<B)∧n0≤B
 lo:w.heap.size≤b3∧w.heap.size≤b7∧b3≠b7∧b3<n0∧b7<n0∧n0≤Y.heap.size∧∀b,U b→n0≤b∧b<Y.heap.size
theorem SRf.app{w Y v v1 v2 v3:World}{b7 b3 n0:Nat}{nv iv ov ov':Value}{U U':Nat→Prop}{s2:zaq}{L:List Int}{G news:List zaq}(h:SRf w Y b7 b3 n0 nv iv U U' s2 L ov G v)(hE:Ext v v1)
  (ho:Owns 6 (StN nv) n0 v2 80 ov' (G++news)) (hk:Keep (fun b=>some b=ov.ownBlock) v1 v2) (hb:∀b,some b=ov'.ownBlock→some b=ov.ownBlock∨v1.heap.size≤b)
  (h7:v3.heap[b7]? =some (.cells #[ov'] 92 (0,0))) (hk3:Keep (fun b=>b=b7) v2 v3):SRf w Y b7 b3 n0 nv iv U (fun b=>U' b∨(v1.heap.size≤b∧b<v3.heap.size)) s2 L ov' (G++news) v3:=by
 obtain⟨B,hB1,hB2,hB3⟩:=h.blk
 obtain⟨l1,l2,l3,l4,l5,l6,l7⟩:=h.lo
 have z0:=h.kb.size
 have z1:=hE.size
 have z2:=hk.size
 have z3:=hk3.size
 have ow:∀b,some b=ov.ownBlock→n0≤b∧b<v.heap.size:=fun b hb=>h.own.ge hb
 have low:∀b,some b=ov.ownBlock→b<Y.heap.size→U b:=fun b hb hY=>(h.u2 b (h.u1 b hb)).resolve_right (by omega)
 have k2:KeepB Y.heap.size (fun b=>b=b7∨U b) v1 v2:=hk.toB (by omega) (fun b hY hb=> .inr (low b hb hY))
 have k3:KeepB Y.heap.size (fun b=>b=b7∨U b) v2 v3:=hk3.toB (by omega) (fun b hY hb=> .inl hb)
 have e2:Ext w v2:=Keep.to_ext (h.e.trans hE) rfl (fun b hb=>by have:=ow b hb;omega) hk
 refine⟨h7,ho.keep hk3 (fun b hb hb2=>by have:=ho.ge hb;omega),fun b hb'=>?_,fun b hb'=>?_,(h.kb.trans (zcv hE (by omega))).trans (k2.trans k3),Keep.to_ext e2 rfl (fun b hb=>by omega) hk3,?_,?_,h.blk,h.lo⟩
 ·rcases hb b hb' with e|e
  ·exact .inl (h.u1 b e)
  ·have:=ho.ge hb';exact .inr (by omega)
 ·rcases hb' with e|e
  ·rcases h.u2 b e with e|e
   ·exact .inl e
   ·exact .inr (by omega)
  ·exact .inr (by omega)
 ·exact(hk3.block _ (by have:=(Array.getElem?_eq_some_iff.1 h.h3).1;omega) (by omega)).trans ((hk.block _ (by have:=(Array.getElem?_eq_some_iff.1 h.h3).1;omega) (fun hb=>by have:=ow _ hb;omega)).trans (Ext.at hE h.h3))
 ·have hivb:BlkB B v1 iv:=hB1.ext (by omega)
  refine(((h.riv.ext hE).blocks fun a n c hv=>hk.block _ (by have:=(hB1 a n c hv).2;omega) (fun hb=>?_))).blocks fun a n c hv=>hk3.block _ (by have:=(hB1 a n c hv).2;omega) (by have:=(hB1 a n c hv).1;omega)
  have h1:=(hB1 a n c hv)
  have:=hB2 _ (low _ hb h1.2)
  omega
theorem refer_ok{w0 w:World}(hE0:Ext w0 w){cs cr:List Value}{N:NetL}{r:ResL}(hN:NetAt w0 cs N)(hG:NetZ N){nv:Value}{s:zaq}(hr:Row w nv (s.name.map vs))(hres:ResAt w0 w cr r)(kr:zli r)(kl:r.data.length≤1000)(hgood:∀n∈zau 2 r.data,NmM n)(b0:0≤s.rf)(b1:s.rf≤1000000):
  Fn Tryz.prog 96 #[.agg (stV nv s).toArray,.agg cs.toArray,.agg cr.toArray] w (fun v w'=>Ext w w'∧StF w.heap.size (fun u=>u=nv) w' v (zfu N s r)):=by
 have hN0:=hN
 have hres0:=hres
 obtain⟨hv,rv,rfl,hh,hro⟩:=hN.ex
 obtain⟨dv,mv,gv,rfl,g1,g2,g3⟩:=hres.ex
 obtain⟨ah,ch,hhv,_⟩:=hh.open
 obtain⟨ar,cr,hrv,_⟩:=id hro
 obtain⟨an,cn,hnv,_⟩:=id hr
 obtain⟨ad,cd,hdv,_⟩:=g1.open
 obtain⟨am,cm,hmv,_⟩:=id g2
 obtain⟨ag,cg,hgv,_⟩:=g3.open
 have n1:=hr.isOne
 unfold stV
 refine enter Tryz.func96 Tryz.ntmps96 rfl rfl ?_
 repeat refine c_r ?_
 rw[hhv,hrv,hnv,hdv,hmv,hgv]
 refine rg0 ?_
 rw[←hhv,←hrv,←hnv,←hdv,←hmv,←hgv]
 repeat refine c_r ?_
 rw[zai,zai,zai]
 refine zcz ?_
 intro w1 hE1 hs1 hA hB hC
 have p3:zae w1 (some ⟨w.heap.size,3,Option.none⟩)=some (vi s.rf):=zab hA rfl
 have q3:zae w1 (some ⟨w.heap.size+1,3,Option.none⟩)=some (vi N.rf):=zab hB rfl
 have dA:zal w1 (some ⟨w.heap.size,0,Option.none⟩) 6=some (stV nv s):=zah hA rfl
 repeat refine c_r ?_
 unfold zfu
 by_cases hge:s.rf≥N.rf
 ·rw[if_pos hge]
  refine rg4 p3 q3 Nat.zero_add (decide_eq_true hge) ?_
  repeat refine c_r ?_
  refine wt trivial ?_
  repeat refine c_r ?_
  refine rc dA (zcw w1 (hr.ext hE1) s 8) ?_
  rintro v w2 ⟨hE2,hv2⟩
  refine re trivial ?_
  repeat refine c_r ?_
  refine rt0 Tryz.ntmps96 ?_
  exact⟨hE1.trans hE2,(zb6 hv2 (hr.ext (hE1.trans hE2))).mono hE1.size fun u h=>h⟩
 rw[if_neg hge]
 refine rg4 p3 q3 Nat.zero_add (decide_eq_false hge) ?_
 repeat refine c_r ?_
 refine wf trivial ?_
 repeat refine c_r ?_
 refine rq ?_;intro gd K hgd hK
 try simp (disch:=first|omega|assumption|rfl) only[go_sem,p3,Nat.zero_add]
 refine zaR (P:=Tryz.prog) (t:=3) (j:=3) (u:=vi (s.rf+1)) (l:=stV nv s) hA (by show 3<6;decide) rfl rfl rfl ?_
 intro w2 hs2 hA2 hk2
 try simp only[go_sem]
 refine hK _ _ ?_;clear hK hgd;clear K;try clear gd
 obtain⟨s2,hs2e⟩:∃s2:zaq,{s with rf:=s.rf+1}=s2:=⟨_,rfl⟩
 have hA2':w2.heap[w.heap.size]? =some (.cells (stV nv s2).toArray 80 (0,0)):=by rw[←hs2e];exact hA2
 have mn:s2.name=s.name:=by rw[←hs2e]
 rw[hs2e]
 have hE2:Ext w w2:=Keep.to_ext hE1 rfl (fun b hb=>by omega) hk2
 have hB2:=(hk2.block _ (by omega) (by omega)).trans hB
 have hC2:=(hk2.block _ (by omega) (by omega)).trans hC
 repeat refine c_r ?_
 refine rg0 ?_
 refine zaB ?_
 intro w3 hE3 hs3 hD
 obtain⟨b7,hb7⟩:∃b,w2.heap.size=b:=⟨_,rfl⟩
 rw[hb7]at hD hs3 ⊢
 have hE03:=hE2.trans hE3
 have dN:zal w3 (some ⟨w.heap.size+1,0,Option.none⟩) 4=some [hv,rv,vi N.rw,vi N.rf]:=zah (Ext.at hE3 hB2) rfl
 have dR:zal w3 (some ⟨w.heap.size+1+1,0,Option.none⟩) 5=some [vi r.kind,dv,mv,.bool r.wild,gv]:=zah (Ext.at hE3 hC2) rfl
 repeat refine c_r ?_
 refine rc (an2 dN dR) (meant_ok w3) ?_
 rintro _ w4 ⟨rfl,hE4,hs4,hbn,hbr⟩
 refine re trivial ?_
 have hE04:=hE03.trans hE4
 have hA4:=Ext.at (hE3.trans hE4) hA2'
 have hD4:=Ext.at hE4 hD
 repeat refine c_r ?_
 refine zdS (g:=203) (cap:=#[.pointer (some ⟨w3.heap.size+1,0,Option.none⟩),.pointer (some ⟨w3.heap.size,0,Option.none⟩)]) (vq0) rfl (meantIt (C:=fun b=>b=b7) hE0 hE04 hbr hbn (fun b hb=>by omega) (by omega) (by omega) hN0 hG hres0 kr hgood) (Keep.refl _ _) (Nat.le_refl _) (fun b hb=>by omega) (fun x U A args h=>by obtain⟨_,_,e,_⟩:=h;rw[e];rfl)
  (fun pre U A=>Ext w A∧∃ov,A.heap[b7]? =some (.cells #[ov] 92 (0,0))∧Owns 6 (StN nv) (w4.heap.size+2) A 80 ov (pre.flatMap (zd6 N r s2))∧(∀b,some b=ov.ownBlock→U b)∧A.heap[w.heap.size]? =some (.cells (stV nv s2).toArray 80 (0,0)))
  (fun _ _ _=>False) ?_ (fun _ _ _ _ h _=>h.elim) ?_ ?_ ?_ (fun _ _ _ _ _ _ h _=>h.elim)
 ·rintro pre U A B ⟨h1,ov,h2,h3,h4,h5⟩ hU hk
  have f:∀{b:Nat} {O:Obj},A.heap[b]? =some O→b<w4.heap.size→B.heap[b]? =some O:=fun h hb=>(hk.block _ (Array.getElem?_eq_some_iff.1 h).1 (by unfold span;omega)).trans h
  exact⟨Keep.to_ext h1 rfl (fun b hb=>by unfold span at hb;omega) hk,ov,f h2 (by omega),h3.keep hk (fun b hb hb2=>by have:=hU b (h4 b hb);unfold span at hb2;omega),h4,f h5 (by omega)⟩
 ·exact⟨hE04,.slice Option.none 0 0,hD4,Owns.nil _ _ _ _ _,fun b hb=>by simp[Value.ownBlock]at hb,hA4⟩
 ·rintro lp pre U y A args ⟨suf,hxs⟩ hszA ⟨hEA,ov,k7,hown,hU,k3⟩ hUb ⟨iv,B,rfl,hmv,hmb,hmB,hmn⟩
  refine rg0 ?_
  refine zap ?_
  refine⟨rfl,Keep.refl _ _,fun Y hY=>?_⟩
  have hsY:=hY.size
  have f:∀{b:Nat} {O:Obj},A.heap[b]? =some O→¬two w4.heap.size b→Y.heap[b]? =some O:=fun h hb=>(hY.block _ (Array.getElem?_eq_some_iff.1 h).1 hb).trans h
  have hEY:Ext w Y:=Keep.to_ext hEA rfl (fun b hb=>by unfold two at hb;omega) hY
  have hRI:SRf w Y b7 w.heap.size (w4.heap.size+2) nv iv U U s2 (ofR N r y) ov (pre.flatMap (zd6 N r s2)) Y:=⟨f k7 (by unfold two;omega),hown.keep hY (fun b hb hb2=>by have:=(hown.ge hb).1;unfold two at hb2;omega),hU,fun b hb=> .inl hb,KeepB.refl _ _ _,hEY,f k3 (by unfold two;omega),hmv.keepB hY hmb (fun b h1 _ h2=>by unfold two at h2;omega),⟨B,hmb.ext hsY,hmB,hmn⟩,by omega,by omega,by omega,by omega,by omega,by omega,fun b hb=>by have:=hUb b hb;omega⟩
  clear hmv hmb hmB hmn hown hU k7 k3
  obtain⟨L,hL⟩:∃L,ofR N r y=L:=⟨_,rfl⟩
  have hLl:L.length≤1000:=by
   have:=zkl (N:=N) (r:=r) (h:=y)
   have:=hG.hl
   rw[←hL];omega
  have hho:zd6 N r s2 y=(if (L.length:Int)=0 then endS s2 9 else [])++L.map fun k=>{s2 with sv:=k,ref:=true}:=by unfold zd6;rw[hL]
  have hpl:pre.length≤1000:=by
   have h1:=congrArg List.length hxs
   have h2:(zau 2 r.data).length≤r.data.length:=by
    unfold zau
    split
    ·exact List.length_filterMap_le _ _
    ·simp
   simp at h1;omega
  have hGl:(pre.flatMap (zd6 N r s2)).length≤2000000:=by
   have h1:=zge (fun a=>zg0 (N:=N) (r:=r) (s:=s2) (h:=a)) pre
   have h2:=hG.hl
   have h3:pre.length*(N.hosts.length+1)≤1000*1001:=Nat.mul_le_mul hpl (by omega)
   omega
  rw[hL]at hRI
  obtain⟨ai,ci,rfl,hci,_⟩:=id hRI.riv
  simp only[List.length_map]at hRI hci ⊢
  obtain⟨G,hGe⟩:∃G,pre.flatMap (zd6 N r s2)=G:=⟨_,rfl⟩
  rw[hGe]at hRI hGl
  have hb7n:b7<w4.heap.size+2:=by omega
  have hb3n:w.heap.size<w4.heap.size+2:=by omega
  repeat refine c_r ?_
  refine rg0 ?_
  repeat refine c_r ?_
  refine zaA (Q:=fun e σ' ds' v'=>e= .normal∧ds'=[]∧σ' 8= .slice ai L.length ci∧σ' 3= .pointer (some ⟨w.heap.size,0,Option.none⟩)∧σ' 7= .pointer (some ⟨b7,0,Option.none⟩)∧∃ov' U',SRf w Y b7 w.heap.size (w4.heap.size+2) nv (.slice ai L.length ci) U U' s2 L ov' (G++if (L.length:Int)=0 then endS s2 9 else []) v') ?_ ?_
  ·by_cases h0:(L.length:Int)=0
   ·rw[if_pos h0]
    refine wt (decide_eq_true h0) ?_
    repeat refine c_r ?_
    refine zaH (fun i=>i==4) [(0,true),(1,true),(2,false),(3,false),(4,false)] (zd8 (w4.heap.size+2)) mixed (by kernel_rfl) ?_;intro gd K x hgd hx hxe hK;have hx0:=zfp hxe;clear hxe
    have q7:zae x (some ⟨b7,0,Option.none⟩)=some ov:=zab (Ext.at hx0 hRI.h7) rfl
    have q3:zal x (some ⟨w.heap.size,0,Option.none⟩) 6=some (stV nv s2):=zah (Ext.at hx0 hRI.h3) rfl
    simp (disch:=first|omega|assumption|rfl) only[go_sem,q7,q3]
    refine⟨zdI hb7n,zdI hb3n,?_⟩
    refine Fn.mono (zcw x (hr.ext (hRI.e.trans hx0)) s2 9) ?_
    rintro ev y1 ⟨hy1,hev,_⟩
    refine⟨.inr hy1.keep,?_⟩
    have sx:=hx0.size
    have sy:=hy1.size
    have sY:=hRI.lo.2.2.2.2.2.1
    simp (disch:=first|omega|assumption|rfl) only[go_sem]
    refine zaT (zco nv) (hRI.own.ext (hx0.trans hy1)) hev (by rfl) (by rfl) (by rfl) (by rfl) (by rfl) (by rfl) (by decide) (vr0) (vr0) (by unfold endS;simp;omega) (by decide) (by omega) ?_
    intro ov' y2 ho2 hE2 hk2 hb2
    refine⟨.inr (hk2.mono fun b _ hb=>(hRI.own.ge hb).1),?_⟩
    obtain⟨ao,co,hov,_⟩:=ho2.rows.open
    simp (disch:=first|omega|assumption|rfl) only[go_sem]
    refine zaR (P:=Tryz.prog) (t:=92) (j:=0) (u:=ov') (l:=[ov]) ((hk2.block _ (by omega) (fun hb=>by have:=(hRI.own.ge hb).1;omega)).trans (Ext.at (hx0.trans hy1) hRI.h7)) (by simp) (by rw[hov];rfl) rfl rfl ?_
    intro y3 hs3 h73 hk3
    refine⟨.inl rfl,?_⟩
    simp (disch:=first|omega|assumption|rfl) only[go_sem]
    refine hK _ _ ?_;clear hK hgd;clear K;try clear gd
    exact⟨rfl,rfl,vq0,vq0,vq0,ov',_,hRI.app (hx0.trans hy1) ho2 hk2 hb2 h73 hk3⟩
   ·rw[if_neg h0,List.append_nil]
    refine wf (decide_eq_false h0) ?_
    repeat refine c_r ?_
    exact⟨rfl,rfl,vq0,vq0,vq0,ov,U,hRI⟩
  rintro _ σ1 _ Y1 ⟨rfl,rfl,s8,s3,s7,ov1,U1,hR1⟩
  obtain⟨G1,hG1⟩:∃G1,(G++if (L.length:Int)=0 then endS s2 9 else [])=G1:=⟨_,rfl⟩
  have hG1l:G1.length≤2000001:=by
   rw[←hG1];unfold endS
   split<;>simp<;>omega
  rw[hG1]at hR1
  repeat refine c_r ?_
  refine rg1 s8 ?_
  repeat refine c_r ?_
  refine zar (fun m σ ds v=>ds=[]∧∃(i:Nat) (ov:Value) (U':Nat→Prop),i+m=L.length∧σ 36=vi i∧σ 35=vi L.length∧σ 34= .slice ai L.length ci∧σ 3= .pointer (some ⟨w.heap.size,0,Option.none⟩)∧σ 7= .pointer (some ⟨b7,0,Option.none⟩)∧
   SRf w Y b7 w.heap.size (w4.heap.size+2) nv (.slice ai L.length ci) U U' s2 L ov (G1++(L.take i).map fun k=>{s2 with sv:=k,ref:=true}) v) L.length ?_ ?_
  ·exact⟨rfl,0,ov1,U1,by omega,vr0,vq0,vq0,(vq1 s3),(vq1 s7),by simpa using hR1⟩
  clear s8 s3 s7
  rintro m σ ds v ⟨rfl,i,ov,U',him,s36,s35,s34,s3,s7,hR⟩
  repeat refine c_r ?_
  refine rg2 s36 s35 ?_
  repeat refine c_r ?_
  refine wc0 ?_ ?_
  ·intro hlt
   simp only[decide_eq_true_eq]at hlt
   have hi:i<L.length:=by omega
   have hi0:(0:Int)≤(i:Int):=by omega
   have hi1':(i:Int)+1=((i+1:Nat):Int):=by push_cast;rfl
   have hcell:zae v (adr ai i)=some (vi L[i]):=by
    obtain⟨a',c',e,_,hg⟩:=hR.riv
    injection e with e1 _ _
    subst e1
    have:=hg i (by simpa using hi)
    simpa using this
   obtain⟨xz,rfl⟩:=Option.isSome_iff_exists.1 (zag hcell)
   have sY:=hR.lo.2.2.2.2.2.1
   have sv0:=hR.kb.size
   have d3:zal v (some ⟨w.heap.size,0,Option.none⟩) 6=some (stV nv s2):=zah hR.h3 rfl
   repeat refine c_r ?_
   refine rq ?_;intro gd K hgd hK;simp (disch:=first|omega|assumption|rfl) only[go_sem,s36,s34,hi0,hlt,hcell,Nat.mul_one];refine hK _ _ ?_;clear hK hgd;clear K gd
   repeat refine c_r ?_
   refine rq ?_;intro gd K hgd hK
   try simp (disch:=first|omega|assumption|rfl) only[go_sem,s3,d3]
   refine zaQ (P:=Tryz.prog) (l:=stV nv s2) rfl (zcJ n1) rfl rfl ?_
   intro v1 hE1 hs1 hB1
   try simp only[go_sem]
   refine hK _ _ ?_;clear hK hgd;clear K;try clear gd
   obtain⟨bx,hbx⟩:∃b,v.heap.size=b:=⟨_,rfl⟩
   rw[hbx]at hB1 hs1 ⊢
   repeat refine c_r ?_
   refine rq ?_;intro gd K hgd hK
   try simp only[go_sem]
   refine zaR (P:=Tryz.prog) (t:=3) (j:=0) (u:=vi L[i]) (l:=stV nv s2) hB1 (by show 0<6;decide) rfl rfl rfl ?_
   intro v2 hs2' hB2' hk2'
   try simp only[go_sem]
   refine zaR (P:=Tryz.prog) (t:=4) (j:=4) (u:= .bool true) hB2' (by show 4<6;decide) rfl rfl rfl ?_
   intro v3 hs3' hB3' hk3'
   try simp only[go_sem]
   refine hK _ _ ?_;clear hK hgd;clear K;try clear gd
   obtain⟨sk,hsk⟩:∃sk:zaq,{s2 with sv:=L[i],ref:=true}=sk:=⟨_,rfl⟩
   have hB3:v3.heap[bx]? =some (.cells (stV nv sk).toArray 80 (0,0)):=by rw[←hsk];exact hB3'
   have hEv:Ext v v3:=Keep.to_ext (Keep.to_ext hE1 rfl (fun b hb=>by omega) hk2') rfl (fun b hb=>by omega) hk3'
   have q7:zae v3 (some ⟨b7,0,Option.none⟩)=some ov:=zab (Ext.at hEv hR.h7) rfl
   have dx:zal v3 (some ⟨bx,0,Option.none⟩) 6=some (stV nv sk):=zah hB3 rfl
   repeat refine c_r ?_
   refine rq ?_;intro gd K hgd hK
   try simp (disch:=first|omega|assumption|rfl) only[go_sem,s7,q7,dx]
   refine za9 (C:=StN nv) (zco nv) (l:=stV nv sk) (a:=sk) (by rfl) (by rfl) (by rfl) (by rfl) ⟨rfl,n1⟩ (by decide) ?_
   intro v4 hE4' hs4' ho4
   try simp only[go_sem]
   refine zaT (zco nv) (hR.own.ext (hEv.trans hE4')) ho4.rows (by rfl) (by rfl) (by rfl) (by rfl) (by rfl) (by rfl) (by decide) (vr0) (vr0) (by simp;omega) (by decide) (by omega) ?_
   intro ov' v5 ho5 hE5 hk5 hb5
   obtain⟨ao,co,hov,_⟩:=ho5.rows.open
   try simp (disch:=first|omega|assumption|rfl) only[go_sem,s7]
   refine zaR (P:=Tryz.prog) (t:=92) (j:=0) (u:=ov') (l:=[ov]) ((hk5.block _ (by omega) (fun hb=>by have:=(hR.own.ge hb).1;omega)).trans (Ext.at (hEv.trans hE4') hR.h7)) (by simp) (by rw[hov];rfl) rfl rfl ?_
   intro v6 hs6 h76 hk6
   try simp only[go_sem]
   refine hK _ _ ?_;clear hK hgd;clear K;try clear gd
   have hRn:=hR.app (hEv.trans hE4') ho5 hk5 hb5 h76 hk6
   obtain⟨U2,hU2⟩:∃U2,(fun b=>U' b∨(v4.heap.size≤b∧b<v6.heap.size))=U2:=⟨_,rfl⟩
   rw[hU2]at hRn
   repeat refine c_r ?_
   refine rg2 s36 hi1' ?_
   repeat refine c_r ?_
   refine⟨m - 1,by omega,rfl,i+1,ov',U2,by omega,vq0,(vq1 s35),(vq1 s34),(vq1 s3),(vq1 s7),?_⟩
   rw[zan hi,List.map_append,←List.append_assoc,List.map_cons,List.map_nil,hsk]
   exact hRn
  ·intro hge
   simp only[decide_eq_false_iff_not]at hge
   have hfin:G1++(L.take i).map (fun k=>({s2 with sv:=k,ref:=true}:zaq))=(pre++ [y]).flatMap (zd6 N r s2):=by
    rw[List.take_of_length_le (by omega),List.flatMap_append,hGe,List.flatMap_cons,List.flatMap_nil,List.append_nil,hho,←hG1,List.append_assoc]
   rw[hfin]at hR
   repeat refine c_r ?_
   exact⟨U',⟨hR.e,ov,hR.h7,hR.own,hR.u1,hR.h3⟩,hR.u2,hR.kb.keep⟩
 ·rintro xs U A rfl hszA hUb ⟨hEA,ov,k7,hown,hU,k3⟩ hD
  obtain⟨ao,co,rfl,hco,_⟩:=hown.rows.open
  have q7:zae A (some ⟨b7,0,Option.none⟩)=some (.slice ao _ co):=zab k7 rfl
  repeat refine c_r ?_
  refine rc q7 (P_st.Clip_ok hco) ?_
  rintro _ A1 ⟨rfl,rfl⟩
  refine re trivial ?_
  repeat refine c_r ?_
  refine zdC (.inr rfl) (by rfl) Tryz.ntmps96 (vr0) hD ?_
  intro Z hkZ hsZ
  have hrows:=hown.rows.take (m:=_) (c2:=_) (Nat.le_refl _) (Nat.le_refl _)
  rw[List.take_length]at hrows
  have hEZ:Ext w Z:=Keep.to_ext hEA rfl (fun b hb=>by omega) hkZ
  refine⟨hEZ,(hown.blk.same.ext hkZ.size).mono (by omega),nv,rfl,hrows.keep hkZ hown.blk.same (fun b h1 _ h2=>by omega),fun x hx=>?_⟩
  obtain⟨h,_,hx⟩:=List.mem_flatMap.1 hx
  rw[zkq hx,mn]
  exact hr.ext hEZ
section
variable {R : List RecL} {o q n : Nm} {t : Int}
theorem zjp(n:Nm):∀k,zbF (zaw n) k=(zbF n k).map zaw
 |0=>by simp only[zbF,List.map_cons,List.map_nil];rw[zfC]
 |k+1=>by simp only[zbF,List.map_cons];rw[zjp n k,zfC]
end
/-! types -/
section
variable {R : List RecL} {o q n : Nm} {t u : Int}
theorem zec{r:ResL}(h:zaN R q n=some r):(r.kind=5∨r.kind=6)∧(r.kind=5→∀d∈r.data,d.ty=39):=by
 unfold zaN at h
 split at h
 ·cases h
 ·split at h
  ·cases h
   exact⟨.inl rfl,fun _ d hd=>zgh (List.mem_of_mem_take hd)⟩
  ·cases h
   exact⟨.inr rfl,fun h=>by cases h⟩
theorem at_kind{b:Bool}:((atL R n t b).kind=1∨(atL R n t b).kind=2∨(atL R n t b).kind=5)∧((atL R n t b).kind=1→∀d∈(atL R n t b).data,d.ty=t)∧((atL R n t b).kind=5→∀d∈(atL R n t b).data,d.ty=5):=by
 unfold atL
 split
 ·exact⟨.inl rfl,(fun _ d hd=>zgh hd),fun h=>by cases h⟩
 ·split
  ·exact⟨.inr (.inr rfl),(fun h=>by cases h),fun _ d hd=>zgh (List.mem_of_mem_take hd)⟩
  ·exact⟨.inr (.inl rfl),(fun h=>by cases h),fun h=>by cases h⟩
end
/-! cuts -/
section
variable {R : List RecL} {o q : Nm} {t u : Int}
theorem ze5{n:Nm}{i:Nat}:∀{K:Nat},i≤K→∃suf,zbF n K=zbF (n.drop i) (K - i)++suf
 |0,h=>by
  have:i=0:=by omega
  subst this
  exact⟨[],by simp[zbF]⟩
 |K+1,h=>by
  by_cases hi:i=K+1
  ·subst hi
   refine⟨zbF n K,?_⟩
   rw[show K+1 - (K+1)=0 from by omega]
   simp[zbF]
  ·obtain⟨suf,hs⟩:=ze5 (n:=n) (i:=i) (K:=K) (by omega)
   refine⟨suf,?_⟩
   rw[show K+1 - i=(K - i)+1 from by omega]
   simp only[zbF,List.cons_append]
   rw[hs,List.drop_drop,show i+(K - i+1)=K+1 from by omega]
theorem zfH{n:Nm}:∀{K:Nat},∃pre,zbF n K=pre++ [n]∧∀x∈pre,∃i,0<i∧i≤K∧x=n.drop i
 |0=>⟨[],by simp[zbF],fun x h=>by cases h⟩
 |K+1=>by
  obtain⟨pre,h1,h2⟩:=zfH (n:=n) (K:=K)
  refine⟨n.drop (K+1)::pre,by simp only[zbF,h1,List.cons_append],fun x hx=>?_⟩
  rcases List.mem_cons.1 hx with rfl|hx
  ·exact⟨K+1,by omega,Nat.le_refl _,rfl⟩
  ·obtain⟨i,a,b,c⟩:=h2 x hx
   exact⟨i,a,by omega,c⟩
theorem zgd{x:Nm}:∀{pre:List Nm} {suf:List Nm},(∀n∈pre,cutP o R n=false∧n.length≠x.length)→(∀n∈pre,n.length≠q.length)→
  ((∀n∈pre,datC R n 39=[])∧goL o R q (pre++suf)=goL o R q suf)∨((∃n∈pre,datC R n 39≠ [])∧∃r,goL o R q (pre++suf)=some r∧(r.kind=5∨r.kind=6))
 | [],suf,_,_=> .inl ⟨fun n h=>(by cases h),rfl⟩
 |n::pre,suf,h1,h2=>by
  obtain⟨a,b⟩:=h1 n (List.mem_cons_self ..)
  have c:=h2 n (List.mem_cons_self ..)
  simp only[List.cons_append,goL]
  rw[a,if_neg Bool.false_ne_true,if_neg c]
  by_cases hd:datC R n 39=[]
  ·have:zaN R q n=Option.none:=by unfold zaN;rw[if_pos hd]
   rw[this]
   rcases zgd (suf:=suf) (fun m hm=>h1 m (List.mem_cons_of_mem _ hm)) (fun m hm=>h2 m (List.mem_cons_of_mem _ hm)) with ⟨g1,g2⟩| ⟨⟨m,hm,hm2⟩,g2⟩
   ·refine .inl ⟨fun m hm=>?_,g2⟩
    rcases List.mem_cons.1 hm with rfl|hm
    ·exact hd
    ·exact g1 m hm
   ·exact .inr ⟨⟨m,List.mem_cons_of_mem _ hm,hm2⟩,g2⟩
  ·right
   refine⟨⟨n,List.mem_cons_self ..,hd⟩,?_⟩
   cases hr:zaN R q n with
   |none=>
    unfold zaN at hr
    rw[if_neg hd]at hr
    split at hr<;>cases hr
   |some r=>exact⟨r,rfl,(zec hr).1⟩
theorem zfE{α:Type}{p:α→Bool}{x:α}:∀{l:List α},l.find? p=some x→∃pre suf,l=pre++x::suf∧p x=true∧∀y∈pre,p y=false
 | [],h=>by cases h
 |a::l,h=>by
  rw[List.find?_cons]at h
  split at h
  ·rename_i ha
   cases h
   exact⟨[],l,rfl,ha,fun y h=>by cases h⟩
  ·rename_i ha
   obtain⟨pre,suf,h1,h2,h3⟩:=zfE h
   refine⟨a::pre,suf,by rw[h1];rfl,h2,fun y hy=>?_⟩
   rcases List.mem_cons.1 hy with rfl|hy
   ·simpa using ha
   ·exact h3 y hy
theorem zjd(hu:za6 q o=true)(hc:cutL o R q=Option.none):(zbp o R q t).kind≠4∧(zbp o R q t).kind≠7:=by
 unfold cutL at hc
 rw[if_pos hu]at hc
 have hno:∀x∈zbq o q,cutP o R x=false:=fun x hx=>by simpa using (List.find?_eq_none.1 hc) x hx
 have h4:∀{l:List Nm} {r:ResL},(∀x∈l,cutP o R x=false)→goL o R q l=some r→r.kind=5∨r.kind=6:=by
  intro l
  induction l with
  |nil=>intro r _ h;cases h
  |cons n l ih=>
   intro r hl h
   simp only[goL]at h
   rw[hl n (List.mem_cons_self ..),if_neg Bool.false_ne_true]at h
   split at h
   ·cases h
   ·split at h
    ·rename_i r' hr
     cases h
     exact(zec hr).1
    ·exact ih (fun x hx=>hl x (List.mem_cons_of_mem _ hx)) h
 unfold zbp
 rw[if_neg (by rw[hu];simp)]
 cases hg:goL o R q (zbq o q) with
 |some r=>
  have:=h4 hno hg
  show r.kind≠4∧r.kind≠7
  omega
 |none=>
  have key:∀{n:Nm} {b:Bool},(atL R n t b).kind≠4∧(atL R n t b).kind≠7:=fun {n b}=>by
   have:=(at_kind (R:=R) (n:=n) (t:=t) (b:=b)).1
   omega
  by_cases he:zbk o R q=true
  ·simp only[if_pos he]
   exact key
  ·simp only[if_neg he]
   cases zbN o R q with
   |none=>exact⟨(by decide:(3:Int)≠4),(by decide:(3:Int)≠7)⟩
   |some s=>exact key
theorem look_cut(hs:zjA R){c:Nm}(hu:za6 q o=true)(hc:cutL o R q=some c):
    (∃k,k≤q.length∧c=q.drop k)∧
    ((∀t,zbp o R c t=zeP R c)∧(∀t,zbp o R q t=zeP R c)∧datC R c 2≠ []∨
     (∀t,(zbp o R c t).kind=5∨(zbp o R c t).kind=6)∧∀t,(zbp o R q t).kind=5∨(zbp o R q t).kind=6):=by
  unfold cutL at hc
  rw[if_pos hu]at hc
  have hol:=zgv hu
  have hdn:zbq o q=zbF q (q.length - o.length):=if_pos hol
  rw[hdn]at hc
  obtain⟨pre,suf,hsp,hcp,hpre⟩:=zfE hc
  obtain⟨k,hk,hck⟩:=zbu.1 (show c∈zbF q (q.length - o.length) from by rw[hsp];simp)
  have hkl:k≤q.length:=by omega
  refine⟨⟨k,hkl,hck⟩,?_⟩
  have hcl:c.length=q.length - k:=by rw[hck,List.length_drop]
  have hol2:o.length<c.length:=by
    unfold cutP at hcp
    simp only[Bool.and_eq_true,decide_eq_true_eq]at hcp
    exact hcp.1
  have huc:za6 c o=true:=by rw[hck,ziW hkl,hu,Bool.and_true];exact decide_eq_true hk
  -- what is ahead of the cut is the same from the cut and from the name
  obtain⟨suf2,hsf⟩:=ze5 (n:=q) hk
  obtain⟨pre2,hp2,hp3⟩:=zfH (n:=q.drop k) (K:=q.length - o.length - k)
  have hdc:zbq o c=pre2++ [c]:=by
    unfold zbq
    rw[if_pos (by omega),hck,List.length_drop,show q.length - k - o.length=q.length - o.length - k from by omega]
    exact hp2
  have hlen:∀x∈pre2,x.length<c.length:=fun x hx=>by
    obtain⟨i,a,b,rfl⟩:=hp3 x hx
    rw[List.length_drop,List.length_drop]
    omega
  have hall:zbF q (q.length - o.length)=pre2++c::suf2:=by
    rw[hsf,hp2,List.append_assoc,hck];rfl
  have hpp:pre=pre2:=by
    have h1:pre++c::suf=pre2++c::suf2:=by rw[←hsp,hall]
    -- the first that is a cut
    have hx:∀x∈pre2,cutP o R x=false:=by
      intro x hx
      -- lengths rise along the row
      have hrise:∀(K:Nat),(zbF q K).Pairwise (fun a b=>a.length≤b.length):=fun K=>by
        induction K with
        |zero=>simp[zbF]
        |succ K ih=>
          simp only[zbF]
          refine List.pairwise_cons.2 ⟨fun y hy=>?_,ih⟩
          obtain⟨i,hi,rfl⟩:=zbu.1 hy
          rw[List.length_drop,List.length_drop];omega
      have hr:=hrise (q.length - o.length)
      have hx1:x∈pre++c::suf:=by rw[h1];exact List.mem_append_left _ hx
      rw[hsp]at hr
      rcases List.mem_append.1 hx1 with h|h
      · exact hpre x h
      · exfalso
        have hlx:=hlen x hx
        rcases List.mem_cons.1 h with rfl|h
        · omega
        · have:=(List.pairwise_append.1 hr).2.1
          have:=(List.pairwise_cons.1 this).1 x h
          omega
    have key:∀{a b s1 s2:List Nm},a++c::s1=b++c::s2→(∀x∈a,cutP o R x=false)→(∀x∈b,cutP o R x=false)→a=b:=by
      intro a
      induction a with
      |nil=>
        intro b s1 s2 h _ hb
        cases b with
        |nil=>rfl
        |cons y b=>
          simp only[List.nil_append,List.cons_append,List.cons.injEq]at h
          have:=hb y (List.mem_cons_self ..)
          rw[←h.1,hcp]at this
          cases this
      |cons x a ih=>
        intro b s1 s2 h ha hb
        cases b with
        |nil=>
          simp only[List.nil_append,List.cons_append,List.cons.injEq]at h
          have:=ha x (List.mem_cons_self ..)
          rw[h.1,hcp]at this
          cases this
        |cons y b=>
          simp only[List.cons_append,List.cons.injEq]at h
          rw[h.1,ih h.2 (fun z hz=>ha z (List.mem_cons_of_mem _ hz)) (fun z hz=>hb z (List.mem_cons_of_mem _ hz))]
    exact key h1 hpre hx
  subst hpp
  have g1:=zgd (q:=c) (x:=c) (suf:=[c]) (fun n hn=>⟨hpre n hn,by have:=hlen n hn;omega⟩) (fun n hn=>by have:=hlen n hn;omega)
  have g2:=zgd (q:=q) (x:=c) (suf:=c::suf2) (fun n hn=>⟨hpre n hn,by have:=hlen n hn;omega⟩) (fun n hn=>by have:=hlen n hn;omega)
  have hdq:zbq o q=pre++c::suf2:=by rw[hdn,hall]
  have lk:∀{y:Nm} {r:ResL} (t:Int),za6 y o=true→goL o R y (zbq o y)=some r→zbp o R y t=r:=fun {y r} t hy hr=>by
    unfold zbp
    rw[if_neg (by rw[hy];simp),hr]
  have hcc:∀y l,goL o R y (c::l)=some (zeP R c):=fun y l=>by
    simp only[goL]
    rw[if_pos hcp]
  rcases g1 with ⟨a1,a2⟩| ⟨⟨m,hm,hm2⟩,r,hr,hk1⟩
  · rcases g2 with ⟨_,b2⟩| ⟨⟨m,hm,hm2⟩,_⟩
    · left
      refine⟨fun t=>lk t huc (by rw[hdc,a2,hcc]),fun t=>lk t hu (by rw[hdq,b2,hcc]),?_⟩
      unfold cutP hasL at hcp
      simp only[Bool.and_eq_true]at hcp
      obtain⟨r,hr,hr2⟩:=List.any_eq_true.1 hcp.2
      have:r∈ofC R c 2:=by rw[zja hs];exact List.mem_filter.2 ⟨hr,hr2⟩
      intro e
      unfold datC at e
      rw[List.map_eq_nil_iff]at e
      rw[e]at this
      cases this
    · exact absurd (a1 m hm) hm2
  · right
    rcases g2 with ⟨b1,_⟩| ⟨_,r2,hr2,hk2⟩
    · exact absurd (b1 m hm) hm2
    · refine⟨fun t=>?_,fun t=>?_⟩
      · rw[lk t huc (by rw[hdc];exact hr)];exact hk1
      · rw[lk t hu (by rw[hdq];exact hr2)];exact hk2
end
section
variable {R : List RecL} {o q n : Nm} {t u : Int}
theorem zcH{ds:List DatL}{x:Nm}(h:x∈zau u ds):∃d∈ds,x∈d.names:=by
 unfold zau at h
 split at h
 ·obtain⟨d,hd,h2⟩:=List.mem_filterMap.1 h
  exact⟨d,hd,List.mem_of_head? h2⟩
 ·cases h
theorem zjr:zaE []=0:=by decide
theorem zjI(hck:∀r∈R,∀n∈r.dat.names,zaE n=0):zaE (toN u ((datC R n t).take 1))=0:=by
 unfold toN
 cases hq:(zbB u ((datC R n t).take 1)).getLast? with
 |none=>exact zjr
 |some x=>
  have h1:=List.mem_of_getLast? hq
  obtain⟨d,hd,h2⟩:=zcH (zbR _ _ x h1)
  obtain⟨r,hr,rfl⟩:=zeA (List.mem_of_mem_take hd)
  exact hck r hr x h2
theorem zfX{r:ResL}(h:zaN R q n=some r)(h5:r.kind=5):zaE r.name=0:=by
 unfold zaN at h
 split at h
 ·cases h
 ·split at h
  ·rename_i hc
   cases h;exact hc
  ·cases h;cases h5
theorem ziw:∀{l:List Nm} {r:ResL},goL o R q l=some r→r.kind=5→zaE r.name=0
 | [],_,h,_=>by cases h
 |n::l,r,h,h5=>by
  simp only[goL]at h
  split at h
  ·cases h;cases h5
  ·split at h
   ·cases h
   ·split at h
    ·rename_i r' hr
     cases h
     exact zfX hr h5
    ·exact ziw h h5
theorem ziK(hck:∀r∈R,∀n∈r.dat.names,zaE n=0){b:Bool}(h5:(atL R n t b).kind=5):zaE (atL R n t b).name=0:=by
 unfold atL at h5 ⊢
 split at h5
 ·cases h5
 ·rename_i h1
  rw[if_neg h1]
  split at h5
  ·rename_i h2
   rw[if_pos h2]
   exact zjI hck
  ·cases h5
theorem zje(hck:∀r∈R,∀n∈r.dat.names,zaE n=0)(h5:(zbp o R q t).kind=5):zaE (zbp o R q t).name=0:=by
 unfold zbp at h5 ⊢
 split at h5
 ·cases h5
 rename_i h1
 rw[if_neg h1]
 split at h5
 ·rename_i r hr
  exact ziw hr h5
 ·rename_i hr
  split at h5
  ·rename_i h2
   rw[if_pos h2]
   exact ziK hck h5
  ·rename_i h2
   rw[if_neg h2]
   split at h5
   ·rename_i s hs
    exact ziK hck h5
   ·cases h5
end
structure AskF(r:ResL):Prop where
 ok:zli r
 dl:r.data.length≤1000
 nm:r.kind=5→zaE r.name=0
 tg:∀n∈zau 2 r.data,NmM n
 tc:∀d∈r.data,∀n∈d.names,zaE n=0
 ld:r.kind=4→zau 2 r.data≠ []
theorem ask_F{N:NetL}(hG:NetZ N){s:Int}{q:Nm}{t:Int}(mq:NmM q):AskF (askN N s q t):=by
 have hno:AskF ⟨7,[],[],false,[]⟩:=⟨⟨zjc,fun d h=>(by cases h),Nat.zero_le _,Nat.zero_le _,fun x h=>(by cases h)⟩,Nat.zero_le _,fun h=>(by cases h),fun n hn=>(by
  obtain⟨d,hd,_⟩:=zcH hn
  cases hd),fun d h=>(by cases h),fun h=>(by cases h)⟩
 unfold askN
 split
 ·cases hz:(N.zones s)[(zdg N s q).1.toNat]? with
  |none=>exact hno
  |some z=>
   have gz:=(zdW hG).1 z (List.mem_of_getElem? hz)
   have gc:=gz.c
   have hf:=look_F (o:=z.o) (P:=fun d=>∀n∈d.names,zaE n=0) gz.gd.names gc.gd (t:=t) mq
   have hk:=look_ok (o:=z.o) gc (t:=t) mq
   refine⟨hk,?_,zje gz.gd.names,fun n hn=>?_,hf.dat,?_⟩
   ·have:=hf.dl
    have:=gc.len
    show(zbp z.o z.recs q t).data.length≤1000
    omega
   ·obtain⟨d,hd,h2⟩:=zcH hn
    exact(zeC (hf.dat d hd n h2)).m
   ·intro h4
    dsimp only at h4 ⊢
    have hu:za6 q z.o=true:=by
     cases hu:za6 q z.o with
     |true=>rfl
     |false=>
      unfold zbp at h4
      rw[if_pos hu]at h4
      cases h4
    cases hcut:cutL z.o z.recs q with
    |none=>exact absurd h4 (zjd (t:=t) hu hcut).1
    |some c=>
     obtain⟨_,hcase⟩:=look_cut gc.srt hu hcut
     rcases hcase with ⟨_,c2,hne⟩| ⟨_,c2⟩
     ·rw[c2 t]
      show zau 2 (datC z.recs c 2)≠ []
      obtain⟨d,hd⟩:=List.exists_mem_of_ne_nil _ hne
      obtain⟨r,hr,rfl⟩:=zeA hd
      have hl:=gz.gd.lead r hr (by rw[zgh hd];exact .inl rfl)
      obtain⟨x,hx⟩:∃x,r.dat.names.head? =some x:=by
       cases hn:r.dat.names with
       |nil=>rw[hn]at hl;cases hl
       |cons x l=>exact⟨x,rfl⟩
      intro he
      have:x∈zau 2 (datC z.recs c 2):=by
       unfold zau
       rw[if_pos (by decide)]
       exact List.mem_filterMap.2 ⟨_,hd,hx⟩
      rw[he]at this;cases this
     ·have:=c2 t;omega
 ·exact hno
def zbD(N:NetL)(s:zaq)(t:Int):List zaq:=
 if s.fin=0 then
  (if (askN N s.sv s.name t).kind=1 then endS s 1 else if (askN N s.sv s.name t).kind=2 then endS s 2 else if (askN N s.sv s.name t).kind=3 then endS s 3 else if (askN N s.sv s.name t).kind=6 then endS s 4 else if (askN N s.sv s.name t).kind=5 then zfQ N s (askN N s.sv s.name t).name
  else if (askN N s.sv s.name t).kind=4 then zfu N s (askN N s.sv s.name t) else if s.ref=true then endS s 6 else endS s 5)
 else []
structure StB(s:zaq):Prop where
 nm:NmM s.name
 rw0:0≤s.rw
 rw1:s.rw≤1000000
 rf0:0≤s.rf
 rf1:s.rf≤1000000
theorem ziR{w0 w:World}(hE0:Ext w0 w){cs:List Value}{N:NetL}{s:zaq}{t:Int}{nv:Value}(hN:NetAt w0 cs N)(hG:NetZ N)(hr:Row w nv (s.name.map vs))(bs:StB s):
  Fn Tryz.prog 45 #[.agg cs.toArray,.agg (stV nv s).toArray,vi t] w (fun v w'=>Ext w w'∧StF w.heap.size (fun u=>u=nv∨BlkB w.heap.size w' u∨∃l,Row w0 u l) w' v (zbD N s t)):=by
 have hN0:=hN
 obtain⟨hv,rv,rfl,hh,hro⟩:=hN.ex
 obtain⟨ah,ch,hhv,_⟩:=hh.open
 obtain⟨ar,cr,hrv,_⟩:=id hro
 obtain⟨an,cn,hnv,_⟩:=id hr
 unfold stV
 refine enter Tryz.func45 Tryz.ntmps45 rfl rfl ?_
 repeat refine c_r ?_
 rw[hhv,hrv,hnv]
 refine rg0 ?_
 rw[←hhv,←hrv,←hnv]
 repeat refine c_r ?_
 rw[zai]
 refine zaM ?_
 intro w1 hE1 hs1 hA hB
 have p5:zae w1 (some ⟨w.heap.size+1,5,Option.none⟩)=some (vi s.fin):=zab hB rfl
 have p0:zae w1 (some ⟨w.heap.size+1,0,Option.none⟩)=some (vi s.sv):=zab hB rfl
 have p1:zae w1 (some ⟨w.heap.size+1,1,Option.none⟩)=some nv:=zab hB rfl
 have p4:zae w1 (some ⟨w.heap.size+1,4,Option.none⟩)=some (.bool s.ref):=zab hB rfl
 have dN:zal w1 (some ⟨w.heap.size,0,Option.none⟩) 4=some [hv,rv,vi N.rw,vi N.rf]:=zah hA rfl
 have dS:zal w1 (some ⟨w.heap.size+1,0,Option.none⟩) 6=some (stV nv s):=zah hB rfl
 repeat refine c_r ?_
 unfold zbD
 by_cases hf:s.fin=0
 rotate_left
 ·rw[if_neg hf]
  refine rg3 p5 Nat.zero_add (decide_eq_false hf) ?_
  repeat refine c_r ?_
  refine wt Bool.not_false ?_
  repeat (first|refine c_r ?_|refine rg0 ?_)
  refine rt0 Tryz.ntmps45 ?_
  exact⟨hE1,BlkB.nil,nv,.inl rfl,Rows.nil _ _ _,fun x hx=>by cases hx⟩
 rw[if_pos hf]
 refine rg3 p5 Nat.zero_add (decide_eq_true hf) ?_
 repeat refine c_r ?_
 refine wf Bool.not_true ?_
 repeat refine c_r ?_
 refine rq ?_;intro gd K hgd hK
 try simp (disch:=first|omega|assumption|rfl) only[go_sem,dN,p0,p1,Nat.add_zero,Nat.zero_add]
 refine Fn.mono (Ask_ok (s:=s.sv) (t:=t) (hE0.trans hE1) hN0 hG (hr.ext hE1) bs.nm) ?_
 rintro _ w2 ⟨hE2,cs,rfl,hres⟩
 have hra:=hres.at ((hE0.trans hE1).trans hE2)
 have hmvB:∀u,cs[2]? =some u→BlkB w.heap.size w2 u∨∃l,Row w0 u l:=fun u hu=>by
  obtain⟨dv,mv,gv,e,_,_,h3,_⟩:=hres.ex
  rw[e]at hu
  obtain rfl:mv=u:=by simpa using hu
  exact h3.imp (fun h=>h.2.mono hE1.size) fun h=>⟨_,h⟩
 have hF:=ask_F (s:=s.sv) (t:=t) hG bs.nm
 try simp only[go_sem]
 refine zaQ (P:=Tryz.prog) (l:=cs) (by rw[hres.cells.1];rfl) hres.cells.2 (by rw[hres.cells.1];rfl) rfl ?_
 intro w3 hE3 hs3 hB3
 try simp only[go_sem]
 refine hK _ _ ?_;clear hK hgd;clear K;try clear gd
 obtain⟨r,hre⟩:∃r,askN N s.sv s.name t=r:=⟨_,rfl⟩
 rw[hre]at hra hF hres ⊢
 have hra3:=hra.ext hE3
 have d3:=zah (n:=5) hB3 hres.cells.1.symm
 obtain⟨b,hb⟩:∃b,w2.heap.size=b:=⟨_,rfl⟩
 rw[hb]at hB3 d3 ⊢
 have hE23:=hE2.trans hE3
 have hE13:=hE1.trans hE23
 have hE03:=hE0.trans hE13
 have dN3:=zac hE23 dN
 have dS3:=zac hE23 dS
 have p43:=zaa hE23 p4
 clear hres hra p5 p0 p1 p4 dN dS
 have k0:zae w3 (some ⟨b,0,Option.none⟩)=some (vi r.kind):=by
  obtain⟨dv,mv,gv,e,_⟩:=hra3.ex
  rw[e]at hB3
  exact zab hB3 rfl
 have hrn:=hr.ext hE13
 repeat refine c_r ?_
 refine rg2 k0 Nat.add_zero ?_
 repeat refine c_r ?_
 by_cases k1:r.kind=1
 ·rw[if_pos k1]
  refine rg1 (decide_eq_true k1) ?_
  repeat refine c_r ?_
  refine wt trivial ?_
  repeat refine c_r ?_
  refine rc dS3 (zcw w3 hrn s 1) ?_
  rintro v w4 ⟨hE4,hv⟩
  refine re trivial ?_
  repeat refine c_r ?_
  refine rt0 Tryz.ntmps45 ?_
  exact⟨hE13.trans hE4,(zb6 hv (hrn.ext hE4)).mono hE13.size fun u h=> .inl h⟩
 rw[if_neg k1]
 refine rg1 (decide_eq_false k1) ?_
 repeat refine c_r ?_
 refine wf trivial ?_
 repeat refine c_r ?_
 by_cases k2:r.kind=2
 ·rw[if_pos k2]
  refine rg1 (decide_eq_true k2) ?_
  repeat refine c_r ?_
  refine wt trivial ?_
  repeat refine c_r ?_
  refine rc dS3 (zcw w3 hrn s 2) ?_
  rintro v w4 ⟨hE4,hv⟩
  refine re trivial ?_
  repeat refine c_r ?_
  refine rt0 Tryz.ntmps45 ?_
  exact⟨hE13.trans hE4,(zb6 hv (hrn.ext hE4)).mono hE13.size fun u h=> .inl h⟩
 rw[if_neg k2]
 refine rg1 (decide_eq_false k2) ?_
 repeat refine c_r ?_
 refine wf trivial ?_
 repeat refine c_r ?_
 by_cases k3:r.kind=3
 ·rw[if_pos k3]
  refine rg1 (decide_eq_true k3) ?_
  repeat refine c_r ?_
  refine wt trivial ?_
  repeat refine c_r ?_
  refine rc dS3 (zcw w3 hrn s 3) ?_
  rintro v w4 ⟨hE4,hv⟩
  refine re trivial ?_
  repeat refine c_r ?_
  refine rt0 Tryz.ntmps45 ?_
  exact⟨hE13.trans hE4,(zb6 hv (hrn.ext hE4)).mono hE13.size fun u h=> .inl h⟩
 rw[if_neg k3]
 refine rg1 (decide_eq_false k3) ?_
 repeat refine c_r ?_
 refine wf trivial ?_
 repeat refine c_r ?_
 by_cases k6:r.kind=6
 ·rw[if_pos k6]
  refine rg1 (decide_eq_true k6) ?_
  repeat refine c_r ?_
  refine wt trivial ?_
  repeat refine c_r ?_
  refine rc dS3 (zcw w3 hrn s 4) ?_
  rintro v w4 ⟨hE4,hv⟩
  refine re trivial ?_
  repeat refine c_r ?_
  refine rt0 Tryz.ntmps45 ?_
  exact⟨hE13.trans hE4,(zb6 hv (hrn.ext hE4)).mono hE13.size fun u h=> .inl h⟩
 rw[if_neg k6]
 refine rg1 (decide_eq_false k6) ?_
 repeat refine c_r ?_
 refine wf trivial ?_
 repeat refine c_r ?_
 by_cases k5:r.kind=5
 ·rw[if_pos k5]
  refine rg1 (decide_eq_true k5) ?_
  repeat refine c_r ?_
  refine wt trivial ?_
  obtain⟨dv,mv,gv,e,_,hnm,_⟩:=hra3.ex
  rw[e]at hB3
  have k2:zae w3 (some ⟨b,2,Option.none⟩)=some mv:=zab hB3 rfl
  repeat refine c_r ?_
  refine rc (an4 dS3 dN3 k2 Nat.zero_add) (alias_ok hE03 hN0 hG hrn hnm (zeC (hF.nm k5)).m bs.rw0 bs.rw1) ?_
  rintro v w4 ⟨hE4,hv⟩
  refine re trivial ?_
  repeat refine c_r ?_
  refine rt0 Tryz.ntmps45 ?_
  exact⟨hE13.trans hE4,hv.mono hE13.size fun u h=>by
   rcases h with h|h
   ·exact .inl h
   ·rw[h]
    exact .inr ((hmvB mv (by rw[e];rfl)).imp (fun h=>h.ext (by have:=hE3.size;have:=hE4.size;omega)) id)⟩
 rw[if_neg k5]
 refine rg1 (decide_eq_false k5) ?_
 repeat refine c_r ?_
 refine wf trivial ?_
 repeat refine c_r ?_
 by_cases k4:r.kind=4
 ·rw[if_pos k4]
  refine rg1 (decide_eq_true k4) ?_
  repeat refine c_r ?_
  refine wt trivial ?_
  repeat refine c_r ?_
  refine rc (an3 dS3 dN3 d3) (refer_ok hE03 hN0 hG hrn hra3 hF.ok hF.dl hF.tg bs.rf0 bs.rf1) ?_
  rintro v w4 ⟨hE4,hv⟩
  refine re trivial ?_
  repeat refine c_r ?_
  refine rt0 Tryz.ntmps45 ?_
  exact⟨hE13.trans hE4,hv.mono hE13.size fun u h=> .inl h⟩
 rw[if_neg k4]
 refine rg1 (decide_eq_false k4) ?_
 repeat refine c_r ?_
 refine wf trivial ?_
 repeat refine c_r ?_
 refine rg2 p43 Nat.add_zero ?_
 repeat refine c_r ?_
 cases hrf:s.ref with
 |true=>
  rw[if_pos rfl]
  refine wt hrf ?_
  repeat refine c_r ?_
  refine rc dS3 (zcw w3 hrn s 6) ?_
  rintro v w4 ⟨hE4,hv⟩
  refine re trivial ?_
  repeat refine c_r ?_
  refine rt0 Tryz.ntmps45 ?_
  exact⟨hE13.trans hE4,(zb6 hv (hrn.ext hE4)).mono hE13.size fun u h=> .inl h⟩
 |false=>
  rw[if_neg Bool.false_ne_true]
  refine wf hrf ?_
  repeat refine c_r ?_
  refine rc dS3 (zcw w3 hrn s 5) ?_
  rintro v w4 ⟨hE4,hv⟩
  refine re trivial ?_
  repeat refine c_r ?_
  refine rt0 Tryz.ntmps45 ?_
  exact⟨hE13.trans hE4,(zb6 hv (hrn.ext hE4)).mono hE13.size fun u h=> .inl h⟩
structure zfl where
 o:Nm
 path:Lab
structure SrvL where
 host:Nm
 addr:List UInt8
 places:List zfl
structure zgs where
 servers:List SrvL
 roots:List Int
 rw:Int
 rf:Int
structure PlaceC(w:World)(cs:List Value)(p:zfl):Prop where
 ex:∃ov,cs=[ov,vs p.path]∧Row w ov (p.o.map vs)
structure SrvC(w:World)(cs:List Value)(s:SrvL):Prop where
 ex:∃nv a b c d pv,cs=[nv,zaf a,zaf b,zaf c,zaf d,pv]∧s.addr=[a,b,c,d]∧Row w nv (s.host.map vs)∧Rows 2 (PlaceC w) w pv s.places
structure ConfAt(w:World)(cs:List Value)(c:zgs):Prop where
 ex:∃sv rv,cs=[sv,rv,vi c.rw,vi c.rf]∧Rows 6 (SrvC w) w sv c.servers∧Row w rv (c.roots.map vi)
theorem PlaceC.ext{w x:World}{cs:List Value}{p:zfl}(h:PlaceC w cs p)(hE:Ext w x):PlaceC x cs p:=by
 obtain⟨ov,e,h1⟩:=h.ex
 exact⟨ov,e,h1.ext hE⟩
theorem SrvC.ext{w x:World}{cs:List Value}{z:SrvL}(h:SrvC w cs z)(hE:Ext w x):SrvC x cs z:=by
 obtain⟨nv,a,b,c,d,zv,e,ha,h1,h2⟩:=h.ex
 exact⟨nv,a,b,c,d,zv,e,ha,h1.ext hE,Rows.extC (fun _ _ h=>PlaceC.ext h hE) h2 hE⟩
theorem ConfAt.ext{w x:World}{cs:List Value}{z:zgs}(h:ConfAt w cs z)(hE:Ext w x):ConfAt x cs z:=by
 obtain⟨hv,rv,e,h1,h2⟩:=h.ex
 exact⟨hv,rv,e,Rows.extC (fun _ _ h=>SrvC.ext h hE) h1 hE,h2.ext hE⟩
structure Sh(n:Nm):Prop where
 len:n.length≤130
 lb:∀l∈n,l.length≤100
theorem Sh.m{n:Nm}(h:Sh n):NmM n:=⟨fun l hl=>by have:=h.lb l hl;omega,by have:=h.len;omega⟩
structure FewC(c:zgs):Prop where
 sl:c.servers.length≤20
 rl:c.roots.length≤20
 s:∀s∈c.servers,Sh s.host∧s.places.length≤20∧∀p∈s.places,Sh p.o∧p.path.length≤50
theorem ziN(w:World){a:Value}{n:Nm}(ha:Row w a (n.map vs)):
  Fn Tryz.prog 118 #[a] w (fun v w'=>Ext w w'∧∃t,v= .bool t∧(t=true→Sh n)):=by
 obtain⟨a1,c1,rfl,_,h1⟩:=ha
 simp only[List.length_map,List.getElem_map]at h1 ⊢
 refine enter Tryz.func118 Tryz.ntmps118 rfl rfl ?_
 repeat refine c_r ?_
 refine rg0 ?_
 repeat refine c_r ?_
 by_cases hn:(n.length:Int)>130
 ·refine rg1 (decide_eq_true hn) ?_
  repeat refine c_r ?_
  refine wt trivial ?_
  repeat (first|refine c_r ?_|refine rg0 ?_)
  refine rt0 Tryz.ntmps118 ?_
  exact⟨Keep.refl _ _,_,rfl,fun h=>by cases h⟩
 refine rg1 (decide_eq_false hn) ?_
 repeat refine c_r ?_
 refine wf trivial ?_
 repeat refine c_r ?_
 refine rg0 ?_
 repeat refine c_r ?_
 refine zar (fun m σ ds A=>ds=[]∧∃(i:Nat),i+m=n.length∧σ 3=vi i∧σ 0= .slice a1 n.length c1∧Ext w A∧∀j (h:j<n.length),j<i→n[j].length≤100) n.length ?_ ?_
 ·exact⟨rfl,0,by omega,vr0,vq0,Keep.refl _ _,fun j h h2=>absurd h2 (by omega)⟩
 rintro m σ ds A ⟨rfl,i,him,s3,s0,hEA,ht⟩
 repeat refine c_r ?_
 refine rg2 s3 s0 ?_
 repeat refine c_r ?_
 refine wc0 ?_ ?_
 ·intro hlt
  simp only[decide_eq_true_eq]at hlt
  have hi:i<n.length:=by omega
  have hi0:(0:Int)≤(i:Int):=by omega
  have hi1':(i:Int)+1=((i+1:Nat):Int):=by push_cast;rfl
  have g1:=zaa hEA (h1 i hi)
  obtain⟨x1,rfl⟩:=Option.isSome_iff_exists.1 (zag (h1 i hi))
  repeat refine c_r ?_
  refine rq ?_;intro gd K hgd hK;simp (disch:=first|omega|assumption|rfl) only[go_sem,s3,s0,hi0,hlt,g1,Nat.mul_one];refine hK _ _ ?_;clear hK hgd;clear K gd
  repeat refine c_r ?_
  by_cases hl:(n[i].length:Int)>100
  ·refine wt (decide_eq_true hl) ?_
   repeat (first|refine c_r ?_|refine rg0 ?_)
   refine rt0 Tryz.ntmps118 ?_
   exact⟨hEA,_,rfl,fun h=>by cases h⟩
  ·refine wf (decide_eq_false hl) ?_
   repeat refine c_r ?_
   refine rg2 s3 hi1' ?_
   repeat refine c_r ?_
   refine⟨m - 1,by omega,rfl,i+1,by omega,vq0,(vq1 s0),hEA,fun j hj hji=>?_⟩
   by_cases hj2:j=i
   ·subst hj2;omega
   ·exact ht j hj (by omega)
 ·intro hge
  simp only[decide_eq_false_iff_not]at hge
  repeat (first|refine c_r ?_|refine rg0 ?_)
  refine rt0 Tryz.ntmps118 ?_
  refine⟨hEA,_,rfl,fun _=>⟨by omega,fun l hl=>?_⟩⟩
  obtain⟨j,hj,rfl⟩:=List.mem_iff_getElem.1 hl
  exact ht j hj (by omega)
theorem RPath_ok(w:World){l:Lab}(hl:l.length≤1000000):
  Fn Tryz.prog 167 #[vs l] w (fun v w'=>Ext w w'∧∃t,v= .bool t):=by
 refine enter Tryz.func167 Tryz.ntmps167 rfl rfl ?_
 repeat refine c_r ?_
 refine rg0 ?_
 repeat refine c_r ?_
 refine rg0 ?_
 repeat refine c_r ?_
 refine zar (fun m σ ds A=>ds=[]∧∃(i:Nat),i+m=l.length∧σ 3=vi i∧σ 0=vs l∧Ext w A) l.length ?_ ?_
 ·exact⟨rfl,0,by omega,vr0,vq0,Keep.refl _ _⟩
 rintro m σ ds A ⟨rfl,i,him,s3,s0,hEA⟩
 repeat refine c_r ?_
 refine rg2 s3 s0 ?_
 repeat refine c_r ?_
 refine wc0 ?_ ?_
 ·intro hlt
  simp only[decide_eq_true_eq]at hlt
  have hi:i<l.length:=by omega
  have hi0:(0:Int)≤(i:Int):=by omega
  have hi2:((i:Int)).toNat<l.length:=by omega
  have hi1':(i:Int)+1=((i+1:Nat):Int):=by push_cast;rfl
  repeat refine c_r ?_
  refine rg2 s3 s0 ?_
  repeat refine c_r ?_
  refine wc0 ?_ ?_
  ·intro _
   repeat (first|refine c_r ?_|refine rg0 ?_)
   refine rt0 Tryz.ntmps167 ?_
   exact⟨hEA,_,rfl⟩
  ·intro _
   repeat refine c_r ?_
   refine rg2 s3 hi1' ?_
   repeat refine c_r ?_
   exact⟨m - 1,by omega,rfl,i+1,by omega,vq0,(vq1 s0),hEA⟩
 ·intro hge
  repeat refine c_r ?_
  refine rg1 s0 ?_
  repeat refine c_r ?_
  refine rt0 Tryz.ntmps167 ?_
  exact⟨hEA,_,rfl⟩
theorem zig{w:World}{sv:Value}{l:List SrvL}(hs:Rows 6 (SrvC w) w sv l):∃a c,sv= .slice a l.length c∧∀i (h:i<l.length),∃xa xi x5 nv ap cp,a=some xa∧adr (some xa) (i*6)=some xi∧adr (some xi) 5=some x5∧zae w (some xi)=some nv∧Row w nv (l[i].host.map vs)∧
  zae w (some x5)=some (.slice ap l[i].places.length cp)∧(∃b1 b2 b3 b4,l[i].addr=[b1,b2,b3,b4]∧zal w (some xi) 6=some [nv,zaf b1,zaf b2,zaf b3,zaf b4,.slice ap l[i].places.length cp])∧Rows 2 (PlaceC w) w (.slice ap l[i].places.length cp) l[i].places∧
  ∀k (h:k<l[i].places.length),∃xp xk xk1 ov,ap=some xp∧adr (some xp) (k*2)=some xk∧adr (some xk) 1=some xk1∧zae w (some xk)=some ov∧Row w ov (l[i].places[k].o.map vs)∧zae w (some xk1)=some (vs l[i].places[k].path):=by
 obtain⟨a,c,rfl,_,hg⟩:=hs.open
 refine⟨a,c,rfl,fun i hi=>?_⟩
 obtain⟨cs,hcs,hS⟩:=hg i hi
 obtain⟨nv,b1,b2,b3,b4,pv,rfl,ha,hn,hp⟩:=hS.ex
 have hp0:=hp
 obtain⟨ap,cp,rfl,_,hgp⟩:=hp.open
 obtain⟨xa,rfl⟩:=Option.isSome_iff_exists.1 (zao hcs)
 obtain⟨xi,hxi⟩:∃xi,adr (some xa) (i*6)=some xi:=⟨_,rfl⟩
 obtain⟨x5,hx5⟩:∃x,adr (some xi) 5=some x:=⟨_,rfl⟩
 rw[hxi]at hcs
 have h0:=zax (j:=0) hcs rfl
 rw[zaz]at h0
 have h5:=zax (j:=5) hcs rfl
 rw[hx5]at h5
 refine⟨xa,xi,x5,nv,ap,cp,rfl,hxi,hx5,h0,hn,h5,⟨b1,b2,b3,b4,ha,hcs⟩,hp0,fun k hk=>?_⟩
 obtain⟨c2,hc2,hP⟩:=hgp k hk
 obtain⟨ov,rfl,ho⟩:=hP.ex
 obtain⟨xp,rfl⟩:=Option.isSome_iff_exists.1 (zao hc2)
 obtain⟨xk,hxk⟩:∃xi,adr (some xp) (k*2)=some xi:=⟨_,rfl⟩
 obtain⟨xk1,hxk1⟩:∃x,adr (some xk) 1=some x:=⟨_,rfl⟩
 rw[hxk]at hc2
 have g0:=zax (j:=0) hc2 rfl
 rw[zaz]at g0
 have g1:=zax (j:=1) hc2 rfl
 rw[hxk1]at g1
 exact⟨xp,xk,xk1,ov,rfl,hxk,hxk1,g0,ho,g1⟩
theorem Few15_ok(w:World){cs:List Value}{c:zgs}(hc:ConfAt w cs c):
  Fn Tryz.prog 66 #[.agg cs.toArray] w (fun v w'=>Ext w w'∧∃t,v= .bool t∧(t=true→FewC c)):=by
 obtain⟨sv,rv,rfl,hs,hr⟩:=hc.ex
 obtain⟨aS,cS,rfl,hat⟩:=zig hs
 obtain⟨ar,cr,rfl,_⟩:=hr
 simp only[List.length_map]
 refine enter Tryz.func66 Tryz.ntmps66 rfl rfl ?_
 repeat refine c_r ?_
 refine rg0 ?_
 repeat refine c_r ?_
 refine zaB ?_
 intro w1 hE1 hs1 hA
 have p0:zae w1 (some ⟨w.heap.size,0,Option.none⟩)=some (.slice aS c.servers.length cS):=zab hA rfl
 have p1:zae w1 (some ⟨w.heap.size,1,Option.none⟩)=some (.slice ar c.roots.length cr):=zab hA rfl
 repeat refine c_r ?_
 by_cases h1:(c.servers.length:Int)>20
 ·refine rgg [(4,9)] (an3 p0 Nat.add_zero (decide_eq_true h1)) ?_
  repeat refine c_r ?_
  refine wt trivial ?_
  repeat (first|refine c_r ?_|refine rg0 ?_)
  refine rt0 Tryz.ntmps66 ?_
  exact⟨hE1,_,rfl,fun h=>by cases h⟩
 by_cases h2:(c.roots.length:Int)>20
 ·refine rgg [(4,9)] (an6 p0 Nat.add_zero (decide_eq_false h1) p1 Nat.zero_add (decide_eq_true h2)) ?_
  repeat refine c_r ?_
  refine wt trivial ?_
  repeat (first|refine c_r ?_|refine rg0 ?_)
  refine rt0 Tryz.ntmps66 ?_
  exact⟨hE1,_,rfl,fun h=>by cases h⟩
 refine rgg [(4,9)] (an6 p0 Nat.add_zero (decide_eq_false h1) p1 Nat.zero_add (decide_eq_false h2)) ?_
 repeat refine c_r ?_
 refine wf trivial ?_
 repeat refine c_r ?_
 refine rg0 ?_
 repeat refine c_r ?_
 refine zar (fun m σ ds A=>ds=[]∧∃(i:Nat),i+m=c.servers.length∧σ 3=vi i∧σ 1= .pointer (some ⟨w.heap.size,0,Option.none⟩)∧Ext w1 A∧∀j (h:j<c.servers.length),j<i→Sh c.servers[j].host∧c.servers[j].places.length≤20∧∀p∈c.servers[j].places,Sh p.o∧p.path.length≤50) c.servers.length ?_ ?_
 ·exact⟨rfl,0,by omega,vr0,vq0,Keep.refl _ _,fun j h h2=>absurd h2 (by omega)⟩
 rintro m σ ds A ⟨rfl,i,him,s3,s1,hEA,ht⟩
 have p0A:=zaa hEA p0
 repeat refine c_r ?_
 refine rg4 s3 s1 p0A Nat.add_zero ?_
 repeat refine c_r ?_
 refine wc0 ?_ ?_
 ·intro hlt
  simp only[decide_eq_true_eq]at hlt
  have hi:i<c.servers.length:=by omega
  have hi0:(0:Int)≤(i:Int):=by omega
  have hi1':(i:Int)+1=((i+1:Nat):Int):=by push_cast;rfl
  obtain⟨xa,xi,x5,nv,ap,cp,rfl,hxi,hx5,g0,hn,g5,_,_,hpl⟩:=hat i hi
  obtain⟨s,hse⟩:∃s,c.servers[i]=s:=⟨_,rfl⟩
  rw[hse]at hn g5
  simp only[hse]at hpl
  have hz0:adr (some xi) 0=some xi:=zaz _
  have g0A:=zaa (hE1.trans hEA) g0
  repeat refine c_r ?_
  refine rcg [(8,30)] (an9 s3 s1 p0A Nat.add_zero hi0 hlt hxi hz0 g0A) (ziN A (hn.ext (hE1.trans hEA))) ?_
  rintro _ A1 ⟨hE2,t,rfl,hsh⟩
  have hEA1:=hEA.trans hE2
  have p0B:=zaa hEA1 p0
  have g5B:=zaa (hE1.trans hEA1) g5
  cases t with
  |false=>
   refine reg [(8,30)] Bool.not_false ?_
   repeat refine c_r ?_
   refine wt trivial ?_
   repeat (first|refine c_r ?_|refine rg0 ?_)
   refine rt0 Tryz.ntmps66 ?_
   exact⟨hE1.trans hEA1,_,rfl,fun h=>by cases h⟩
  |true=>
  by_cases h3:(s.places.length:Int)>20
  ·refine reg [(8,30)] (an2 (an9 s3 s1 p0B Nat.add_zero hi0 hlt hxi hx5 g5B) (an2 Bool.not_true (decide_eq_true h3))) ?_
   repeat refine c_r ?_
   refine wt trivial ?_
   repeat (first|refine c_r ?_|refine rg0 ?_)
   refine rt0 Tryz.ntmps66 ?_
   exact⟨hE1.trans hEA1,_,rfl,fun h=>by cases h⟩
  refine reg [(8,30)] (an2 (an9 s3 s1 p0B Nat.add_zero hi0 hlt hxi hx5 g5B) (an2 Bool.not_true (decide_eq_false h3))) ?_
  repeat refine c_r ?_
  refine wf trivial ?_
  repeat refine c_r ?_
  refine rg0 ?_
  repeat refine c_r ?_
  refine zar (fun m σ ds B=>ds=[]∧∃(k:Nat),k+m=s.places.length∧σ 4=vi k∧σ 3=vi i∧σ 1= .pointer (some ⟨w.heap.size,0,Option.none⟩)∧Ext w1 B∧∀j (h:j<s.places.length),j<k→Sh s.places[j].o∧s.places[j].path.length≤50) s.places.length ?_ ?_
  ·exact⟨rfl,0,by omega,vr0,(vq1 s3),(vq1 s1),hEA1,fun j h h2=>absurd h2 (by omega)⟩
  clear s3 s1
  rintro m2 σ2 ds2 B ⟨rfl,k,hkm,s4,s3,s1,hEB,ht2⟩
  have p0C:=zaa hEB p0
  have g5C:=zaa (hE1.trans hEB) g5
  repeat refine c_r ?_
  refine rg9 s4 s3 s1 (an3 p0C Nat.add_zero g5C) hi0 hlt hxi hx5 trivial ?_
  repeat refine c_r ?_
  refine wc0 ?_ ?_
  ·intro hlt2
   simp only[decide_eq_true_eq]at hlt2
   have hk:k<s.places.length:=by omega
   have hk0:(0:Int)≤(k:Int):=by omega
   have hk1':(k:Int)+1=((k+1:Nat):Int):=by push_cast;rfl
   obtain⟨xp,xk,xk1,ov,rfl,hxk,hxk1,f0,ho,f1⟩:=hpl k hk
   have hz1:adr (some xk) 0=some xk:=zaz _
   have f0C:=zaa (hE1.trans hEB) f0
   repeat refine c_r ?_
   refine rcg [(12,63)] (an2 (an9 s4 s3 s1 p0C Nat.add_zero g5C hi0 hlt hxi) (an7 hx5 hk0 hlt2 hxk hz1 f0C trivial)) (ziN B (ho.ext (hE1.trans hEB))) ?_
   rintro _ B1 ⟨hE3,t,rfl,hsh2⟩
   have hEB1:=hEB.trans hE3
   cases t with
   |false=>
    refine reg [(12,63)] Bool.not_false ?_
    repeat refine c_r ?_
    refine wt trivial ?_
    repeat (first|refine c_r ?_|refine rg0 ?_)
    refine rt0 Tryz.ntmps66 ?_
    exact⟨hE1.trans hEB1,_,rfl,fun h=>by cases h⟩
   |true=>
   have p0D:=zaa hEB1 p0
   have g5D:=zaa (hE1.trans hEB1) g5
   have f1D:=zaa (hE1.trans hEB1) f1
   by_cases h4:((s.places[k].path).length:Int)>50
   ·refine reg [(12,63)] (an3 (an9 s4 s3 s1 p0D Nat.add_zero g5D hi0 hlt hxi) (an6 hx5 hk0 hlt2 hxk hxk1 f1D) (an2 Bool.not_true (decide_eq_true h4))) ?_
    repeat refine c_r ?_
    refine wt trivial ?_
    repeat (first|refine c_r ?_|refine rg0 ?_)
    refine rt0 Tryz.ntmps66 ?_
    exact⟨hE1.trans hEB1,_,rfl,fun h=>by cases h⟩
   refine reg [(12,63)] (an3 (an9 s4 s3 s1 p0D Nat.add_zero g5D hi0 hlt hxi) (an6 hx5 hk0 hlt2 hxk hxk1 f1D) (an2 Bool.not_true (decide_eq_false h4))) ?_
   repeat refine c_r ?_
   refine wf trivial ?_
   repeat refine c_r ?_
   refine rg2 s4 hk1' ?_
   repeat refine c_r ?_
   refine⟨m2 - 1,by omega,rfl,k+1,by omega,vq0,(vq1 s3),(vq1 s1),hEB1,fun j hj hjk=>?_⟩
   by_cases hj2:j=k
   ·subst hj2;exact⟨hsh2 rfl,by omega⟩
   ·exact ht2 j hj (by omega)
  ·intro hge2
   simp only[decide_eq_false_iff_not]at hge2
   repeat refine c_r ?_
   refine rg2 s3 hi1' ?_
   repeat refine c_r ?_
   refine⟨m - 1,by omega,rfl,i+1,by omega,vq0,(vq1 s1),hEB,fun j hj hji=>?_⟩
   by_cases hj2:j=i
   ·subst hj2
    rw[hse]
    refine⟨hsh rfl,by omega,fun p hp=>?_⟩
    obtain⟨k2,hk2,rfl⟩:=List.mem_iff_getElem.1 hp
    exact ht2 k2 hk2 (by omega)
   ·exact ht j hj (by omega)
 ·intro hge
  simp only[decide_eq_false_iff_not]at hge
  repeat (first|refine c_r ?_|refine rg0 ?_)
  refine rt0 Tryz.ntmps66 ?_
  refine⟨hE1.trans hEA,_,rfl,fun _=>⟨by omega,by omega,fun s hs=>?_⟩⟩
  obtain⟨j,hj,rfl⟩:=List.mem_iff_getElem.1 hs
  exact ht j hj (by omega)
section
variable {P : Program} {d : Option Tmp} {ty : TypeId} {ps : String} {af : Array Edge} {g : Option (Nat × Bool)} {ρ : Operand → Value} {w : World} {K : Value → World → Prop}
theorem zew{e:TypeId}{cs:Array Value}{i:Nat}{v:Value}(he:P.underlying e=some (.int .u8))(hv:cs[i]? =some v):(part e cs i).run P w= .ok v w:=by
 have hi:(isAgg e).run P w= .ok false w:=by simp[isAgg,underlying,program,Sem.run,he]
 unfold part
 simp only[Sem.run_bind,hi,Result.andThen_ok,Bool.false_eq_true,if_false,hv,Sem.run_pure]
theorem zcP{e:TypeId}(he:P.underlying e=some (.int .u8))(n:Nat)(a b:UInt8):(Op.equalIn (n+1) e (zaf a) (zaf b)).run P w= .ok (decide (a=b)) w:=by
 have:((a.toNat:Int)==(b.toNat:Int))=decide (a=b):=by
  by_cases h:a=b
  ·subst h;simp
  ·rw[decide_eq_false h]
   have:a.toNat≠b.toNat:=fun h2=>h (UInt8.toNat_inj.1 h2)
   simp;omega
 simp[Op.equalIn,underlying,program,Sem.run,he,zaf,this]
theorem eqIn_arr{t e:TypeId}{inf:TypeInfo}(ht:P.underlying t=some (.array 4 e))(he:P.underlying e=some (.int .u8))(hi:P.info? e=some inf)(hs:inf.size=1)(n:Nat)(a b c d a' b' c' d':UInt8):
  (Op.equalIn (n+2) t (.agg #[zaf a,zaf b,zaf c,zaf d]) (.agg #[zaf a',zaf b',zaf c',zaf d'])).run P w= .ok (decide ([a,b,c,d]=[a',b',c',d'])) w:=by
 rw[Op.equalIn]
 have hsz:(sizeOf e).run P w= .ok 1 w:=by simp[sizeOf,typeInfo,program,Sem.run,hi,hs]
 have hu:(underlying t).run P w= .ok (.array 4 e) w:=by simp[underlying,program,Sem.run,ht]
 simp only[Sem.run_bind,hu,Result.andThen_ok,hsz,Std.Legacy.Range.forIn_eq_forIn_range',Std.Legacy.Range.size,List.range']
 have p0:∀x0 x1 x2 x3:Value,(part e #[x0,x1,x2,x3] 0).run P w= .ok x0 w:=fun _ _ _ _=>zew he rfl
 have p1:∀x0 x1 x2 x3:Value,(part e #[x0,x1,x2,x3] 1).run P w= .ok x1 w:=fun _ _ _ _=>zew he rfl
 have p2:∀x0 x1 x2 x3:Value,(part e #[x0,x1,x2,x3] 2).run P w= .ok x2 w:=fun _ _ _ _=>zew he rfl
 have p3:∀x0 x1 x2 x3:Value,(part e #[x0,x1,x2,x3] 3).run P w= .ok x3 w:=fun _ _ _ _=>zew he rfl
 by_cases h1:a=a'
 ·by_cases h2:b=b'
  ·by_cases h3:c=c'
   ·by_cases h4:d=d'
    ·simp[List.forIn_cons,Sem.run_bind,p0,p1,p2,p3,zcP he,h1,h2,h3,h4]
    ·simp[List.forIn_cons,Sem.run_bind,p0,p1,p2,p3,zcP he,h1,h2,h3,h4]
   ·simp[List.forIn_cons,Sem.run_bind,p0,p1,p2,p3,zcP he,h1,h2,h3]
  ·simp[List.forIn_cons,Sem.run_bind,p0,p1,p2,p3,zcP he,h1,h2]
 ·simp[List.forIn_cons,Sem.run_bind,p0,p1,p2,p3,zcP he,h1]
theorem op_eqA{t e yt:TypeId}{x y:Operand}{inf:TypeInfo}{a b c d1 a' b' c' d':UInt8}(ht:P.underlying t=some (.array 4 e))(he:P.underlying e=some (.int .u8))(hi:P.info? e=some inf)(hs:inf.size=1)(hg:P.eqGuardType P.depth t=false)
  (hx:ρ x= .agg #[zaf a,zaf b,zaf c,zaf d1]) (hy:ρ y= .agg #[zaf a',zaf b',zaf c',zaf d']) (h:K (.bool (decide ([a,b,c,d1]=[a',b',c',d']))) w):
  opW P ⟨d,.binOp .eql t x y yt,ty,ps,af,g⟩ ρ w K:=by
 have h2:(Op.equal t (.agg #[zaf a,zaf b,zaf c,zaf d1]) (.agg #[zaf a',zaf b',zaf c',zaf d'])).run P w= .ok (decide ([a,b,c,d1]=[a',b',c',d'])) w:=eqIn_arr ht he hi hs 9998 a b c d1 a' b' c' d'
 have hr:(do eqGuard .eql t x y (.agg #[zaf a,zaf b,zaf c,zaf d1]) (.agg #[zaf a',zaf b',zaf c',zaf d']);binOp .eql t (.agg #[zaf a,zaf b,zaf c,zaf d1]) (.agg #[zaf a',zaf b',zaf c',zaf d']):Sem Value).run P w= .ok (.bool (decide ([a,b,c,d1]=[a',b',c',d']))) w:=by
  simp[eqGuard,binOp,h2,program,Sem.run,hg]
 have:=zaJ (P:=P) (K:=K) hr h
 rw[←hx,←hy]at this
 exact this
end
theorem Sh.lb9{n:Nm}(h:Sh n):(∀l∈n,l.length≤1000000000)∧n.length≤1000000000:=⟨fun l hl=>by have:=h.lb l hl;omega,by have:=h.len;omega⟩
theorem zlf(w:World){cs:List Value}{c:zgs}(hc:ConfAt w cs c)(hf:FewC c){i:Nat}(hi:i<c.servers.length):
  Fn Tryz.prog 119 #[.agg cs.toArray,vi i] w (fun v w'=>Ext w w'∧∃e,v=vi e):=by
 obtain⟨sv,rv,rfl,hs,hr⟩:=hc.ex
 obtain⟨aS,cS,rfl,hat⟩:=zig hs
 obtain⟨ar,cr,rfl,_⟩:=hr
 simp only[List.length_map]
 have hsl:=hf.sl
 refine enter Tryz.func119 Tryz.ntmps119 rfl rfl ?_
 repeat refine c_r ?_
 refine rg0 ?_
 repeat refine c_r ?_
 refine zaB ?_
 intro w1 hE1 hs1 hA
 have p0:zae w1 (some ⟨w.heap.size,0,Option.none⟩)=some (.slice aS c.servers.length cS):=zab hA rfl
 obtain⟨xa,xi,x5,nv,ap,cp,rfl,hxi,hx5,g0,hn,g5,⟨b1,b2,b3,b4,hadr,hcs⟩,hpr,hpl⟩:=hat i hi
 obtain⟨s,hse⟩:∃s,c.servers[i]=s:=⟨_,rfl⟩
 obtain⟨fs1,fs2,fs3⟩:=hf.s s (hse▸List.getElem_mem hi)
 rw[hse]at hn g5 hadr hcs hpr
 simp only[hse]at hpl
 have n1:=hn.isOne
 have i0:(0:Int)≤(i:Int):=by omega
 have i1:(i:Int)<(c.servers.length:Int):=by omega
 have d:=zac hE1 hcs
 repeat refine c_r ?_
 refine rq ?_;intro gd K hgd hK
 try simp (disch:=first|omega|assumption|rfl) only[go_sem,p0,Nat.add_zero,i0,i1,hxi,d]
 refine zaQ (P:=Tryz.prog) (l:=[nv,zaf b1,zaf b2,zaf b3,zaf b4,.slice ap s.places.length cp]) rfl (fun v hv=>by simp at hv;rcases hv with rfl|rfl|rfl|rfl|rfl|rfl<;>first|exact n1|rfl) rfl rfl ?_
 intro w2 hE2 hs2 hB
 try simp only[go_sem]
 refine hK _ _ ?_;clear hK hgd;clear K;try clear gd
 obtain⟨b5,hb5⟩:∃b,w1.heap.size=b:=⟨_,rfl⟩
 rw[hb5]at hB ⊢
 have hE12:=hE1.trans hE2
 have p02:=zaa hE2 p0
 have q0:zae w2 (some ⟨b5,0,Option.none⟩)=some nv:=zab hB rfl
 have q1:zal w2 (some ⟨b5,1,Option.none⟩) 4=some [zaf b1,zaf b2,zaf b3,zaf b4]:=by
  have h6:=zah (n:=6) (l:=[nv,zaf b1,zaf b2,zaf b3,zaf b4,.slice ap s.places.length cp]) hB rfl
  have h5:=za5 (m:=1) (k:=5) h6
  rw[zaW]at h5
  exact zcl (m:=4) (k:=1) h5
 have q5:zae w2 (some ⟨b5,5,Option.none⟩)=some (.slice ap s.places.length cp):=zab hB rfl
 repeat refine c_r ?_
 refine rc (an2 q0 Nat.add_zero) (zbA w2 nv s.host (hn.ext hE12) fs1.lb9.1 fs1.lb9.2) ?_
 rintro _ w3 ⟨rfl,hE3⟩
 refine re trivial ?_
 have hE23:=hE12.trans hE3
 repeat refine c_r ?_
 by_cases hck:zaE s.host=0
 rotate_left
 ·refine rg1 (decide_eq_false hck) ?_
  repeat refine c_r ?_
  refine wt Bool.not_false ?_
  repeat (first|refine c_r ?_|refine rg0 ?_)
  refine rt0 Tryz.ntmps119 ?_
  exact⟨hE23,_,rfl⟩
 refine rg1 (decide_eq_true hck) ?_
 repeat refine c_r ?_
 refine wf Bool.not_true ?_
 have p03:=zaa hE3 p02
 have q03:=zaa hE3 q0
 have q13:=zac hE3 q1
 have q53:=zaa hE3 q5
 repeat refine c_r ?_
 refine rg0 ?_
 repeat refine c_r ?_
 refine zar (fun m σ ds A=>ds=[]∧∃(k:Nat),k+m=i∧σ 7=vi k∧σ 1=vi i∧σ 2= .pointer (some ⟨w.heap.size,0,Option.none⟩)∧σ 5= .pointer (some ⟨b5,0,Option.none⟩)∧Ext w3 A) i ?_ ?_
 ·exact⟨rfl,0,by omega,vr0,vq0,vq0,vq0,Keep.refl _ _⟩
 rintro m σ ds A ⟨rfl,k,hkm,s7,s1,s2,s5,hEA⟩
 have hEwA:=hE23.trans hEA
 repeat refine c_r ?_
 refine rg2 s7 s1 ?_
 repeat refine c_r ?_
 refine wc0 ?_ ?_
 ·intro hlt
  simp only[decide_eq_true_eq]at hlt
  have hk:k<c.servers.length:=by omega
  have hk0:(0:Int)≤(k:Int):=by omega
  have hk1:(k:Int)<(c.servers.length:Int):=by omega
  have hk1':(k:Int)+1=((k+1:Nat):Int):=by push_cast;rfl
  obtain⟨xa',xk,_,nv',_,_,hae,hxk,_,f0,hn',_,⟨d1,d2,d3,d4,_,fcs⟩,_,_⟩:=hat k hk
  injection hae with hae
  subst hae
  obtain⟨fsk,_,_⟩:=hf.s _ (List.getElem_mem hk)
  obtain⟨y1,hy1⟩:∃y,adr (some xk) 1=some y:=⟨_,rfl⟩
  have hz0:adr (some xk) 0=some xk:=zaz _
  have fby:zal w (some y1) 4=some [zaf d1,zaf d2,zaf d3,zaf d4]:=by
   have h5:=za5 (m:=1) (k:=5) fcs
   rw[hy1]at h5
   exact zcl (m:=4) (k:=1) h5
  repeat refine c_r ?_
  refine zaH (fun _=>false) [(0,true),(1,true),(2,true),(3,true),(4,true),(5,true),(6,true),(7,true),(8,false),(9,true),(10,true),(11,true),(12,true),(13,true),(14,true),(15,true),(16,true),(17,true),(18,false),(19,true)] NoS mixed (by kernel_rfl) ?_;intro gd K x hgd hx hxe hK;clear hxe
  have hg9:∀n σ b,zat gd n σ (some (9,b))=zaj (ev n σ (.tmp 35)) b:=(fun n σ b=>by rw[zad,show gd 9=some 35 from(by rw[hgd];rfl)];rfl)
  have hW:=hEwA.trans hx
  have p0x:=zaa (hEA.trans hx) p03
  have q0x:=zaa (hEA.trans hx) q03
  have q1x:=zac (hEA.trans hx) q13
  have f0x:=zaa hW f0
  have fbx:=zac hW fby
  simp (disch:=first|omega|assumption|rfl) only[go_sem,s7,s2,s5,p0x,q0x,Nat.add_zero,hk0,hk1,hxk,hz0,f0x]
  refine Fn.mono (zgp x nv' nv _ s.host (hn'.ext hW) (hn.ext hW) fsk.m.LB fs1.m.LB (by have:=fsk.len;omega) (by have:=fs1.len;omega)) ?_
  rintro _ y ⟨rfl,hy⟩
  refine⟨.inr hy,?_⟩
  obtain⟨sm,hsm⟩:∃b,decide (zaw c.servers[k].host=zaw s.host)=b:=⟨_,rfl⟩
  rw[hsm]
  cases sm with
  |true=>
   simp (disch:=first|omega|assumption|rfl) only[go_sem,↓hg9]
   refine hK _ _ ?_;clear hK hgd;clear K;try clear gd
   repeat refine c_r ?_
   refine wt trivial ?_
   repeat (first|refine c_r ?_|refine rg0 ?_)
   refine rt0 Tryz.ntmps119 ?_
   exact⟨hW.trans hy,_,rfl⟩
  |false=>
  have p0y:=zaa hy p0x
  have q1y:=zac hy q1x
  have fby':=zac hy fbx
  simp (disch:=first|omega|assumption|rfl) only[go_sem,s7,s2,s5,p0y,Nat.add_zero,hk0,hk1,hxk,hy1,fby',q1y,↓hg9]
  refine op_eqA (a:=d1) (b:=d2) (c:=d3) (d1:=d4) (a':=b1) (b':=b2) (c':=b3) (d':=b4) rfl rfl rfl rfl (by kernel_rfl) (vr0) (vr0) ?_
  refine⟨.inr (Keep.refl _ _),?_⟩
  simp (disch:=first|omega|assumption|rfl) only[go_sem,↓hg9]
  refine hK _ _ ?_;clear hK hgd;clear K;try clear gd
  have hWy:=hW.trans hy
  have hAy:=(hEA.trans hx).trans hy
  repeat refine c_r ?_
  refine wc0 ?_ ?_
  ·intro _
   repeat (first|refine c_r ?_|refine rg0 ?_)
   refine rt0 Tryz.ntmps119 ?_
   exact⟨hWy,_,rfl⟩
  ·intro _
   repeat refine c_r ?_
   refine rg2 s7 hk1' ?_
   repeat refine c_r ?_
   exact⟨m - 1,by omega,rfl,k+1,by omega,vq0,(vq1 s1),(vq1 s2),(vq1 s5),hAy⟩
 intro hge
 clear hkm hge s7
 have q5A:=zaa hEA q53
 repeat refine c_r ?_
 by_cases h16:(s.places.length:Int)>16
 ·refine rg4 s5 q5A Nat.zero_add (decide_eq_true h16) ?_
  repeat refine c_r ?_
  refine wt trivial ?_
  repeat (first|refine c_r ?_|refine rg0 ?_)
  refine rt0 Tryz.ntmps119 ?_
  exact⟨hEwA,_,rfl⟩
 refine rg4 s5 q5A Nat.zero_add (decide_eq_false h16) ?_
 repeat refine c_r ?_
 refine wf trivial ?_
 repeat refine c_r ?_
 refine rg0 ?_
 repeat refine c_r ?_
 refine zar (fun m σ ds B=>ds=[]∧∃(k:Nat),k+m=s.places.length∧σ 8=vi k∧σ 5= .pointer (some ⟨b5,0,Option.none⟩)∧Ext w3 B) s.places.length ?_ ?_
 ·exact⟨rfl,0,by omega,vr0,(vq1 s5),hEA⟩
 clear s1 s2 s5 q5A hEwA hEA
 rintro m2 σ2 ds2 B ⟨rfl,k,hkm,s8,s5,hEB⟩
 have hEwB:=hE23.trans hEB
 have q5B:=zaa hEB q53
 repeat refine c_r ?_
 refine rg4 s8 s5 q5B Nat.zero_add ?_
 repeat refine c_r ?_
 refine wc0 ?_ ?_
 rotate_left
 ·intro _
  repeat (first|refine c_r ?_|refine rg0 ?_)
  refine rt0 Tryz.ntmps119 ?_
  exact⟨hEwB,_,rfl⟩
 intro hlt
 simp only[decide_eq_true_eq]at hlt
 have hk:k<s.places.length:=by omega
 have hk0:(0:Int)≤(k:Int):=by omega
 have hk1':(k:Int)+1=((k+1:Nat):Int):=by push_cast;rfl
 obtain⟨xp,xk,xk1,ov,rfl,hxk,hxk1,f0,ho,f1⟩:=hpl k hk
 obtain⟨fo,fp⟩:=fs3 _ (List.getElem_mem hk)
 have hz1:adr (some xk) 0=some xk:=zaz _
 have f0B:=zaa hEwB f0
 repeat refine c_r ?_
 refine rc (an9 s8 s5 q5B Nat.zero_add hk0 hlt hxk hz1 f0B) (zbA B ov _ (ho.ext hEwB) fo.lb9.1 fo.lb9.2) ?_
 rintro _ B1 ⟨rfl,hE4⟩
 refine re trivial ?_
 have hEB1:=hEB.trans hE4
 have hEwB1:=hE23.trans hEB1
 have q5B1:=zaa hEB1 q53
 have f1B1:=zaa hEwB1 f1
 repeat refine c_r ?_
 by_cases hck2:zaE s.places[k].o=0
 rotate_left
 ·refine rg1 (decide_eq_false hck2) ?_
  repeat refine c_r ?_
  refine wt Bool.not_false ?_
  repeat (first|refine c_r ?_|refine rg0 ?_)
  refine rt0 Tryz.ntmps119 ?_
  exact⟨hEwB1,_,rfl⟩
 refine rg1 (decide_eq_true hck2) ?_
 repeat refine c_r ?_
 refine wf Bool.not_true ?_
 repeat refine c_r ?_
 refine rc (an9 s8 s5 q5B1 Nat.zero_add hk0 hlt hxk hxk1 f1B1) (RPath_ok B1 (l:=s.places[k].path) (by omega)) ?_
 rintro _ B2 ⟨hE5,t,rfl⟩
 refine re trivial ?_
 have hEB2:=hEB1.trans hE5
 repeat refine c_r ?_
 cases t with
 |false=>
  refine wt Bool.not_false ?_
  repeat (first|refine c_r ?_|refine rg0 ?_)
  refine rt0 Tryz.ntmps119 ?_
  exact⟨hE23.trans hEB2,_,rfl⟩
 |true=>
 refine wf Bool.not_true ?_
 repeat refine c_r ?_
 refine rg0 ?_
 repeat refine c_r ?_
 refine zar (fun m σ ds C=>ds=[]∧∃(j:Nat),j+m=k∧σ 9=vi j∧σ 8=vi k∧σ 5= .pointer (some ⟨b5,0,Option.none⟩)∧Ext w3 C) k ?_ ?_
 ·exact⟨rfl,0,by omega,vr0,(vq1 s8),(vq1 s5),hEB2⟩
 clear s8 s5
 rintro m3 σ3 ds3 C ⟨rfl,j,hjm,s9,s8,s5,hEC⟩
 have hEwC:=hE23.trans hEC
 repeat refine c_r ?_
 refine rg2 s9 s8 ?_
 repeat refine c_r ?_
 refine wc0 ?_ ?_
 rotate_left
 ·intro _
  repeat refine c_r ?_
  refine rg2 s8 hk1' ?_
  repeat refine c_r ?_
  exact⟨m2 - 1,by omega,rfl,k+1,by omega,vq0,(vq1 s5),hEC⟩
 intro hlt2
 simp only[decide_eq_true_eq]at hlt2
 have hj:j<s.places.length:=by omega
 have hj0:(0:Int)≤(j:Int):=by omega
 have hj1:(j:Int)<(s.places.length:Int):=by omega
 have hj1':(j:Int)+1=((j+1:Nat):Int):=by push_cast;rfl
 obtain⟨xp',xj,_,ov',hpe,hxj,_,e0,ho',_⟩:=hpl j hj
 injection hpe with hpe
 subst hpe
 obtain⟨fo',_⟩:=fs3 _ (List.getElem_mem hj)
 have hz2:adr (some xj) 0=some xj:=zaz _
 repeat refine c_r ?_
 refine zaH (fun _=>false) [(0,true),(1,true),(2,true),(3,true),(4,true),(5,true),(6,true),(7,true),(8,true),(9,true),(10,true),(11,true),(12,false)] NoS mixed (by kernel_rfl) ?_;intro gd K x hgd hx hxe hK;clear hxe
 have hW:=hEwC.trans hx
 have q5x:=zaa (hEC.trans hx) q53
 have f0x:=zaa hW f0
 have e0x:=zaa hW e0
 simp (disch:=first|omega|assumption|rfl) only[go_sem,s9,s8,s5,q5x,Nat.zero_add,hk0,hlt,hj0,hj1,hxk,hxj,hz1,hz2,f0x,e0x]
 refine Fn.mono (zgp x ov' ov _ _ (ho'.ext hW) (ho.ext hW) fo'.m.LB fo.m.LB (by have:=fo'.len;omega) (by have:=fo.len;omega)) ?_
 rintro _ y ⟨rfl,hy⟩
 refine⟨.inr hy,?_⟩
 simp (disch:=first|omega|assumption|rfl) only[go_sem]
 refine hK _ _ ?_;clear hK hgd;clear K;try clear gd
 repeat refine c_r ?_
 refine wc0 ?_ ?_
 ·intro _
  repeat (first|refine c_r ?_|refine rg0 ?_)
  refine rt0 Tryz.ntmps119 ?_
  exact⟨hW.trans hy,_,rfl⟩
 ·intro _
  repeat refine c_r ?_
  refine rg2 s9 hj1' ?_
  repeat refine c_r ?_
  exact⟨m3 - 1,by omega,rfl,j+1,by omega,vq0,(vq1 s8),(vq1 s5),(hEC.trans hx).trans hy⟩
end Go.Proofs.YtahbdamijngmmaaGreat
