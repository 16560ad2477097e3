/-
  Texts of a proof, joined: M4rec, SS6rec, D4, HN, HO, HP, HQ, KM, KMR, HR, HS, HT, Y0.
  Conditions: none.
-/
import Derived.Test.YtanmnkbccfcagaaGreatDoorQTU01
import Derived.Test.YtanmnkbccfcagaaGreatDoorQTU02
import Derived.Test.YtanmnkbccfcagaaGreatDoorQTU03
import Derived.Test.YtanmnkbccfcagaaGreatDoorQTU05
import Derived.Test.YtanmnkbccfcagaaGreatDoorQTU04
import Derived.MapFrom
import Derived.Maps.RangeRun
import Derived.Maps.Range
set_option linter.unusedVariables false
set_option linter.unusedSimpArgs false
set_option linter.defProp false
set_option linter.unnecessarySimpa false
set_option maxHeartbeats 8000000
namespace Go.Proofs.YtanmnkbccfcagaaGreatDoor.S_rec
open Go Go.Proofs.YtanmnkbccfcagaaGreatDoor
set_option maxRecDepth 10000
theorem Clone_ok{w:World}{v:Value}{L:List (List Value)}(hr:RowK 7 w v L)(hk:∀x∈L,x.length=7)(h1:∀x∈L,∀q∈x,one q=true)(hlen:L.length≤10000000000):
  Fn Tryz.prog 186 #[v] w (fun u w'=>OwnK 7 w.heap.size w' 35 u L∧Ext w w'):=by
 have hr':=hr
 obtain⟨a,c,rfl,hc,hl⟩:=hr
 refine enter Tryz.func186 Tryz.ntmps186 rfl rfl ?_
 repeat refine c_r ?_
 refine rg0 ?_
 repeat refine c_r ?_
 refine rq ?_;intro gd K hgd hK
 try simp only[go_sem]
 refine eql_nil (by rfl) (by rfl) (by rfl) ?_
 try simp only[go_sem]
 refine hK _ _ ?_;clear hK hgd;clear K;try clear gd
 repeat refine c_r ?_
 cases a with
 |none=>
  have:L=[]:=by
   cases L with
   |nil=>rfl
   |cons x L=>have:=hl 0 (by simp);simp[zav,adr]at this
  subst this
  refine wc0 ?_ ?_
  ·intro _
   repeat refine c_r ?_
   refine rg0 ?_
   repeat refine c_r ?_
   refine rt0 Tryz.ntmps186 ?_
   exact⟨OwnK.nil _ _ _ _,Keep.refl _ _⟩
  ·intro h;cases h
 |some a=>
  refine wc0 ?_ ?_
  ·intro h;cases h
  intro _
  repeat refine c_r ?_
  refine rq ?_;intro gd K hgd hK
  try simp only[go_sem]
  refine ziq (k:=7) (by rfl) (by rfl) (by rfl) (by rfl) ?_
  intro w1 hE1 hs1 ho1
  try simp only[go_sem]
  refine zfC (k:=7) (B:=w.heap.size) ho1 (hr'.ext hE1) (by rfl) (by rfl) (by rfl) (by rfl) (by rfl) (by rfl) (by decide) (by rfl) (by rfl) hk h1 (by simpa using by omega) (by decide) (by omega) ?_
  intro v' w2 ho2 hE2 _ _ _
  try simp only[go_sem]
  refine hK _ _ ?_;clear hK hgd;clear K;try clear gd
  repeat refine c_r ?_
  refine rt0 Tryz.ntmps186 ?_
  exact⟨by simpa using ho2,hE2 w hE1 (Nat.le_refl _)⟩
theorem zcZ(w:World)(cmp:Value):Fn Tryz.prog 269 #[.slice Option.none 0 0,vi 0,vi 0,cmp] w (fun _ w'=>w'=w):=by
 refine enter Tryz.func269 Tryz.ntmps269 rfl rfl ?_
 repeat (first|refine c_r ?_|refine rg0 ?_)
 refine zas (fun m σ ds v=>ds=[]∧v=w∧σ 8=vi 1∧σ 2=vi 0) 0 ?_ ?_
 ·exact⟨rfl,rfl,by simp only[go_sem];rfl,vq0⟩
 ·rintro m σ ds v ⟨rfl,rfl,h8,h2⟩
  repeat refine c_r ?_
  refine rg2 h8 h2 ?_
  repeat refine c_r ?_
  refine wc0 ?_ ?_
  ·intro h;exact absurd h (by decide)
  ·intro _
   repeat refine c_r ?_
   exact zaw (by simp) rfl rfl
theorem zgy(w:World)(cmp:Value):Fn Tryz.prog 230 #[.slice Option.none 0 0,vi 0,cmp] w (fun _ w'=>w'=w):=by
 refine enter Tryz.func230 Tryz.ntmps230 rfl rfl ?_
 repeat refine c_r ?_
 refine rg0 ?_
 repeat refine c_r ?_
 refine rg0 ?_
 repeat refine c_r ?_
 refine zas (fun m σ ds v=>ds=[]∧v=w∧σ 6=vi 20∧σ 7=vi 0∧σ 8=vi 20∧σ 0= .slice Option.none 0 0∧σ 1=vi 0∧σ 2=cmp) 0 ?_ ?_
 ·exact⟨rfl,rfl,vq0,vq0,vq0,vq0,vq0,vq0⟩
 ·rintro m σ ds v ⟨rfl,rfl,h6,h7,h8,h0,h1,h2⟩
  repeat refine c_r ?_
  refine rg2 h8 h1 ?_
  repeat refine c_r ?_
  refine wc0 ?_ ?_
  ·intro h;exact absurd h (by decide)
  intro _
  repeat refine c_r ?_
  refine rq ?_;intro gd K hgd hK
  try simp (disch:=first|omega|assumption|rfl) only[go_sem,h0,h7,h1,h2]
  refine Fn.mono (zcZ v cmp) ?_
  rintro _ w1 hw1
  subst hw1
  try simp only[go_sem]
  refine hK _ _ ?_;clear hK hgd;clear K;try clear gd
  repeat refine c_r ?_
  refine zas (fun m σ ds v=>ds=[]∧v=w1∧σ 6=vi 20∧σ 1=vi 0) 0 ?_ ?_
  ·exact⟨rfl,rfl,(vq1 h6),(vq1 h1)⟩
  ·rintro m3 σ3 ds3 v3 ⟨rfl,rfl,g6,g1⟩
   repeat refine c_r ?_
   refine rg2 g6 g1 ?_
   repeat refine c_r ?_
   refine wc0 ?_ ?_
   ·intro h;exact absurd h (by decide)
   ·intro _
    repeat refine c_r ?_
    exact zaw (by simp) rfl rfl
theorem zd5(w:World)(cmp:Value):Fn Tryz.prog 187 #[.slice Option.none 0 0,cmp] w (fun _ w'=>w'=w):=by
 refine enter Tryz.func187 Tryz.ntmps187 rfl rfl ?_
 repeat refine c_r ?_
 refine rq ?_;intro gd K hgd hK
 try simp only[go_sem]
 refine Fn.mono (zgy w cmp) ?_
 rintro _ w1 hr
 try simp only[go_sem]
 refine hK _ _ ?_;clear hK hgd;clear K;try clear gd
 repeat refine c_r ?_
 exact zaw (by simp) rfl hr
section
variable {α : Type} {enc : α → List Value}
theorem SortOwn_ok{w0 w:World}{B:Nat}{v:Value}{U:α→Prop}{cf:α→α→Int}{lt older:α→α→Prop}{g:FuncId}{cb:List Value}(hc:Cmp w0 enc U cf g cb)(ho:zfp cf lt older)(hB:w0.heap.size≤B)
  {D:List α} (hU:∀x∈D,U x) (hOD:D.Pairwise older) (hD:OwnK 7 B w 35 v (D.map enc)) (hlen:D.length≤100000000000) (hE:Ext w0 w):
  Fn Tryz.prog 187 #[v,cmpV g cb] w (fun _ w'=>∃Z:List α,Z.Perm D∧Z.Pairwise lt∧OwnK 7 B w' 35 v (Z.map enc)∧Keep (fun i=>some i=v.ownBlock) w w'):=by
 rcases hD.cases with ⟨rfl,h0⟩| ⟨b,cap,rfl,hb,hc2,hm,hSD⟩
 ·have:D=[]:=List.map_eq_nil_iff.1 h0
  subst this
  refine Fn.mono (zd5 w _) ?_
  rintro _ w1 rfl
  exact⟨[],List.Perm.refl _,List.Pairwise.nil,OwnK.nil _ _ _ _,Keep.refl _ _⟩
 ·rw[List.length_map]at hc2 ⊢
  refine Fn.mono (zeG (b:=b) (cap:=cap) (lt:=lt) hc ho (by omega) rfl hU hOD hSD hlen hE) ?_
  rintro _ w1 ⟨⟨Z,hp,hs,hL⟩,hK⟩
  refine⟨Z,hp,hs,?_,?_⟩
  ·have:=OwnK.of_sd (B:=B) hL hb (by rw[List.length_map,hp.length_eq];exact hc2) hm
   rw[List.length_map,hp.length_eq]at this
   exact this
  ·have:(fun i=>some i=(Value.slice (some ⟨b,0,Option.none⟩) D.length cap).ownBlock)=(fun i=>i=b):=by
    funext i;simp[Value.ownBlock]
   rw[this];exact hK
end
end Go.Proofs.YtanmnkbccfcagaaGreatDoor.S_rec
namespace Go.Proofs.YtanmnkbccfcagaaGreatDoor
open Go
set_option maxRecDepth 10000
theorem RecAt.len{w:World}{cs:List Value}{r:RecL}(h:RecAt w cs r):cs.length=7:=by
 obtain⟨ow,ds,rfl,_,⟨nm,nu,tx,rw',rfl,_⟩⟩:=h.ex
 rfl
theorem RecAt.ones{w:World}{cs:List Value}{r:RecL}(h:RecAt w cs r):∀q∈cs,one q=true:=by
 obtain⟨ow,ds,rfl,⟨o1,o2,rfl,_⟩,⟨nm,nu,tx,rw',rfl,⟨_,⟨o3,o4,rfl,_⟩,_⟩,⟨o5,o6,rfl,_⟩,⟨o7,o8,rfl,_⟩,⟨o9,o10,rfl,_⟩⟩⟩:=h.ex
 intro q hq
 simp at hq
 rcases hq with rfl|rfl|rfl|rfl|rfl|rfl|rfl<;>rfl
abbrev RI:=(List Value×RecL)×Nat
def encR(x:RI):List Value:=x.1.1
def ze0(a b:RI):Prop:=a.2<b.2
def ltR(a b:RI):Prop:=zau a.1.2 b.1.2<0∨(zau a.1.2 b.1.2=0∧a.2<b.2)
def cfR(a b:RI):Int:=zau a.1.2 b.1.2
def UR(w:World)(x:RI):Prop:=RecAt w x.1.1 x.1.2∧zcw x.1.2
theorem cmp_R{w0 w:World}(hE0:Ext w0 w):S_rec.Cmp w encR (UR w0) cfR 118 []:=
 ⟨by decide,fun A x y hE hx hy=>zcN A _ _ _ _ (hx.1.ext (hE0.trans hE)) (hy.1.ext (hE0.trans hE)) hx.2 hy.2⟩
theorem older_R:zfp cfR ltR ze0:=by
 refine⟨fun {a b c} h1 h2=>?_,fun {x y} ho h=> .inl h,fun {x y} ho h=>?_⟩
 ·rcases h1 with h1| ⟨h1,g1⟩<;>rcases h2 with h2| ⟨h2,g2⟩
  ·exact .inl (cpr_R.trans h1 h2)
  ·exact .inl (by rw[←cpr_R.eqr h2];exact h1)
  ·exact .inl (by rw[cpr_R.eql h1];exact h2)
  ·exact .inr ⟨by rw[cpr_R.eql h1];exact h2,by omega⟩
 ·have:=cpr_R.neg x.1.2 y.1.2
  have h':¬zau y.1.2 x.1.2<0:=h
  by_cases h0:zau x.1.2 y.1.2=0
  ·exact .inr ⟨h0,ho⟩
  ·exact .inl (by omega)
def zeroR:List Value:=[.slice Option.none 0 0,v32 0,vi 0,.slice Option.none 0 0,.slice Option.none 0 0,.slice Option.none 0 0,.slice Option.none 0 0]
theorem sd_zero(w:World):SD 7 (w.alloc (.cells #[.slice Option.none 0 0,v32 0,vi 0,.slice Option.none 0 0,.slice Option.none 0 0,.slice Option.none 0 0,.slice Option.none 0 0] 35 (0,0))) w.heap.size 35 1 [zeroR]:=
 ⟨⟨_,[],zak _ _,rfl,rfl⟩,fun x h=>(by rw[List.mem_singleton.1 h];rfl),fun x h v hv=>(by rw[List.mem_singleton.1 h]at hv;simp[zeroR]at hv;rcases hv with rfl|rfl|rfl|rfl<;>rfl)⟩
def zdh(O:List RecL)(r:RecL):Bool:=match O.getLast? with
 |some x=>decide (zau x r=0)
 |Option.none=>false
theorem zf5{α:Type}{cf:α→α→Int}{jn:α→α→α}(hc:Cpr cf){O':List α}{z r:α}(hs:(O'++ [z]).Pairwise (fun a b=>cf a b<0))(hle:¬0<cf z r):
  putC cf jn r (O'++ [z])=if cf z r=0 then O'++ [jn z r] else O'++ [z,r]:=by
 refine zeW (fun y hy=>?_) hle
 have h1:=(List.pairwise_append.1 hs).2.2 y hy z (by simp)
 by_cases h0:cf z r=0
 ·rw[←hc.eqr h0];exact h1
 ·exact hc.trans h1 (by omega)
theorem recs_set{w:World}{LO:List (List Value)}{O':List RecL}{z m:RecL}{X:List Value}{j:Nat}(hj:O'.length=j)(hl:LO.length=j+1)
  (h:∀q (h:q<LO.length) (h':q<(O'++ [z]).length),RecAt w LO[q] (O'++ [z])[q]) (hX:RecAt w X m):
  ∀q (h:q<(LO.set j X).length) (h':q<(O'++ [m]).length),RecAt w (LO.set j X)[q] (O'++ [m])[q]:=by
 intro q h1 h2
 by_cases hq:q=j
 ·subst hq
  have e1:(LO.set q X)[q]=X:=by simp
  have e2:(O'++ [m])[q]=m:=by simp[←hj]
  rw[e1,e2];exact hX
 ·have hq2:q<O'.length:=by simp at h2;omega
  have e1:(LO.set j X)[q]=LO[q]'(by omega):=List.getElem_set_ne (by omega) _
  have e2:(O'++ [m])[q]=O'[q]:=List.getElem_append_left hq2
  have e3:(O'++ [z])[q]'(by simp;omega)=O'[q]:=List.getElem_append_left hq2
  rw[e1,e2,←e3];exact h q (by omega) (by simp;omega)
theorem zhy{w:World}{LO:List (List Value)}{O:List RecL}{m:RecL}{X:List Value}(hl:LO.length=O.length)
  (h:∀q (h:q<LO.length) (h':q<O.length),RecAt w LO[q] O[q]) (hX:RecAt w X m):
  ∀q (h:q<(LO++ [X]).length) (h':q<(O++ [m]).length),RecAt w (LO++ [X])[q] (O++ [m])[q]:=by
 intro q h1 h2
 by_cases hq:q<LO.length
 ·rw[List.getElem_append_left hq,List.getElem_append_left (by omega)];exact h q hq (by omega)
 ·have hq1:q=LO.length:=by simp at h1;omega
  have e1:(LO++ [X])[q]=X:=by simp[hq1]
  have e2:(O++ [m])[q]=m:=by simp[hq1,hl]
  rw[e1,e2];exact hX
theorem few_ok(w0 w:World)(hE0:Ext w0 w){v:Value}{R:List RecL}(hR:Rows 7 (RecAt w0) w v R)(hok:∀r∈R,zcw r)(hlen:R.length≤1000000000):
  Fn Tryz.prog 117 #[v,.func (.func 118) #[] #[],.func (.func 119) #[] #[]] w (fun u w'=>Rows 7 (RecAt w0) w' u (zba R)∧Ext w w'∧BlkB w.heap.size w' u):=by
 obtain⟨L,hrow,hl,hat⟩:=hR
 have hk:∀x∈L,x.length=7:=fun x hx=>by
  obtain⟨i,hi,rfl⟩:=List.getElem_of_mem hx
  exact(hat i hi (by omega)).len
 have h1:∀x∈L,∀q∈x,one q=true:=fun x hx=>by
  obtain⟨i,hi,rfl⟩:=List.getElem_of_mem hx
  exact(hat i hi (by omega)).ones
 obtain⟨D,hD⟩:∃D:List RI,D=(L.zip R).zipIdx:=⟨_,rfl⟩
 have hDe:D.map encR=L:=by
  rw[hD]
  show(List.zipIdx (L.zip R)).map (Prod.fst∘Prod.fst)=L
  rw[←List.map_map,List.zipIdx_map_fst,List.map_fst_zip (by omega)]
 have hDr:D.map (fun x=>x.1.2)=R:=by
  rw[hD]
  show(List.zipIdx (L.zip R)).map (Prod.snd∘Prod.fst)=R
  rw[←List.map_map,List.zipIdx_map_fst,List.map_snd_zip (by omega)]
 have hDl:D.length=R.length:=by rw[←hDr,List.length_map]
 have hDo:D.Pairwise ze0:=by
  rw[hD,List.pairwise_iff_getElem]
  intro i j hi hj hij
  simp[ze0,hij]
 have hDU:∀x∈D,UR w0 x:=fun x hx=>by
  rw[hD]at hx
  obtain⟨i,hi,rfl⟩:=List.getElem_of_mem hx
  have hi':i<R.length:=by simp at hi;omega
  have hi2:i<L.length:=by omega
  simp only[List.getElem_zipIdx,List.getElem_zip,UR]
  exact⟨hat i hi2 hi',hok _ (List.getElem_mem hi')⟩
 refine enter Tryz.func117 Tryz.ntmps117 rfl rfl ?_
 repeat refine c_r ?_
 refine rg0 ?_
 repeat refine c_r ?_
 refine rq ?_;intro gd K hgd hK
 try simp only[go_sem]
 refine Fn.mono (S_rec.Clone_ok hrow hk h1 (by omega)) ?_
 rintro vs1 w1 ⟨ho1,hE1⟩
 try simp only[go_sem]
 refine hK _ _ ?_;clear hK hgd;clear K;try clear gd
 repeat refine c_r ?_
 refine rq ?_;intro gd K hgd hK
 try simp only[go_sem]
 rw[←hDe]at ho1
 refine Fn.mono (S_rec.SortOwn_ok (w0:=w) (cb:=[]) (cmp_R hE0) older_R (Nat.le_refl _) hDU hDo ho1 (by omega) hE1) ?_
 rintro _ w2 ⟨Z,hp,hs,ho2,hK2⟩
 try simp only[go_sem]
 refine hK _ _ ?_;clear hK hgd;clear K;try clear gd
 repeat refine c_r ?_
 have hE2:Ext w w2:=Keep.to_ext hE1 rfl (fun i hi=>by have:=(ho1.ge hi).1;omega) hK2
 have hE02:=hE0.trans hE2
 have hUZ:∀x∈Z,UR w0 x:=fun x hx=>hDU x (hp.mem_iff.1 hx)
 have hZl:=hp.length_eq
 obtain⟨aS,cS,rfl,hcs,hget⟩:=ho2.rowK
 refine rg0 ?_
 repeat refine c_r ?_
 refine rg0 ?_
 repeat refine c_r ?_
 rw[List.length_map]at hcs
 simp only[List.length_map]
 refine zas (fun m σ ds v=>ds=[]∧∃(i:Nat) (vO:Value) (LO:List (List Value)) (O:List RecL),i+m=Z.length∧σ 18=vi i∧σ 17=vi Z.length∧σ 16= .slice aS Z.length cS∧σ 7=vO∧σ 1= .func (.func 118) #[] #[]∧σ 2= .func (.func 119) #[] #[]∧
  OwnK 7 w2.heap.size v 35 vO LO∧LO.length=O.length∧(∀j (h:j<LO.length) (h':j<O.length),RecAt w0 LO[j] O[j])∧(∀r∈O,zcw r)∧O.length≤i∧O=zbC zau minT (fun x:RI=>x.1.2) (Z.take i) []∧Ext w2 v∧O.Pairwise (fun a b=>zau a b<0)∧(∀o∈O,∀z∈Z.drop i,¬0<zau o z.1.2)) Z.length ?_ ?_
 ·refine⟨rfl,0,.slice Option.none 0 0,[],[],by omega,vr0,vq0,vq0,vq0,vq0,vq0,OwnK.nil _ _ _ _,rfl,fun j h=>absurd h (by simp),fun r h=>absurd h (by simp),by simp,rfl,Keep.refl _ _,List.Pairwise.nil,fun o h=>absurd h (by simp)⟩
 rintro m σ ds v ⟨rfl,i,vO,LO,O,him,h18,h17,h16,h7,hs1,hs2,hO,hOl,hOat,hOok,hOi,hOf,hE3,hOs,hOle⟩
 repeat refine c_r ?_
 refine rg2 h18 h17 ?_
 repeat refine c_r ?_
 refine wc0 ?_ ?_
 ·intro hlt
  simp only[decide_eq_true_eq]at hlt
  have hiZ:i<Z.length:=by omega
  have hgi:=zai hE3 (hget i (by simpa using hiZ))
  have hi0:(0:Int)≤(i:Int):=by omega
  have hi1:(i:Int)<(Z.length:Int):=by omega
  obtain⟨xS,rfl⟩:=Option.isSome_iff_exists.1 (zaR hgi)
  obtain⟨r,hr⟩:∃r,Z[i]=r:=⟨_,rfl⟩
  have hUr:UR w0 r:=hr▸hUZ _ (List.getElem_mem hiZ)
  have hgr:zav v (adr (some xS) (i*7)) 7=some r.1.1:=by rw[hgi,List.getElem_map,hr];rfl
  repeat refine c_r ?_
  refine rq ?_;intro gd K hgd hK
  try simp (disch:=first|omega|assumption|rfl) only[go_sem,h18,h16,hi0,hi1,hgr]
  refine SD.set (P:=Tryz.prog) (t:=35) (sd_zero v) (j:=0) (by simp) hUr.1.len hUr.1.ones rfl rfl ?_
  intro v1 hvs1 hL1 hk1
  have hX1:=Ext.alloc v (.cells #[.slice Option.none 0 0,v32 0,vi 0,.slice Option.none 0 0,.slice Option.none 0 0,.slice Option.none 0 0,.slice Option.none 0 0] 35 (0,0))
  have hEv:Ext v v1:=Keep.to_ext hX1 rfl (fun i hi=>by omega) hk1
  have hvsz:v1.heap.size=v.heap.size+1:=by rw[hvs1];exact zat _ _
  clear hk1 hX1 hvs1
  try simp only[go_sem]
  refine hK _ _ ?_;clear hK hgd;clear K;try clear gd
  have hE4:=hE3.trans hEv
  have hO1:=hO.ext hEv
  have hg9:=hL1.get (j:=0) (by simp)
  have hsO:=hO.rowK
  obtain⟨aO,cO,hvO,hcO,hgO⟩:=hO1.rowK
  rw[hOl]at hvO
  repeat refine c_r ?_
  refine rg2 h7 hvO ?_
  repeat refine c_r ?_
  refine zaA (Q:=fun e σ' ds' v'=>e= .normal∧ds'=[]∧σ' 36= .bool (zdh O r.1.2)∧σ' 18=vi i∧σ' 17=vi Z.length∧σ' 16= .slice (some xS) Z.length cS∧σ' 7= .slice aO O.length cO∧σ' 1= .func (.func 118) #[] #[]∧σ' 2= .func (.func 119) #[] #[]∧
   σ' 9= .pointer (some ⟨v.heap.size,0,Option.none⟩)∧σ' 10=vi O.length∧Ext v1 v') ?_ ?_
  ·rcases List.eq_nil_or_concat O with hO0| ⟨O',z,hO0⟩
   ·have hn:¬((0:Int)<(O.length:Int)):=by rw[hO0];simp
    have hal:zdh O r.1.2=false:=by rw[hO0];rfl
    refine zaK (fun _=>false) [(0,true),(1,true),(2,true),(3,true),(4,true),(5,true),(6,true),(7,true),(8,true),(9,true),(10,false),(11,true),(12,true)] NoS mixed (by kernel_rfl) ?_;intro gd K x hgd hx hxe hK;clear hxe
    have hg2:∀n σ b,zap gd n σ (some (2,b))=zah (ev n σ (.tmp 26)) b:=(fun n σ b=>by rw[zab,show gd 2=some 26 from(by rw[hgd];rfl)];rfl)
    simp (disch:=first|omega|assumption|rfl) only[go_sem,h18,h17,h16,h7,hvO,hs1,hs2,decide_eq_false hn,↓hg2]
    refine hK _ _ ?_;clear hK hgd;clear K;try clear gd
    exact⟨rfl,rfl,by rw[hal];simp only[go_sem],(vq1 h18),(vq1 h17),(vq1 h16),(vq2 h7 hvO),(vq1 hs1),(vq1 hs2),vq0,vq0,hx⟩
   ·rw[List.concat_eq_append]at hO0
    obtain⟨j,hj⟩:∃j,O'.length=j:=⟨_,rfl⟩
    have hOj:O.length=j+1:=by rw[hO0];simp[hj]
    have hn:decide ((0:Int)<((j+1:Nat):Int))=true:=decide_eq_true (by omega)
    have hs:((j+1:Nat):Int) - 1=(j:Int):=by omega
    have hj0:(0:Int)≤(j:Int):=by omega
    have hj1:(j:Int)<((j+1:Nat):Int):=by omega
    have hal:zdh O r.1.2=decide (zau z r.1.2=0):=by unfold zdh;rw[hO0];simp
    have hgj:=hgO j (by omega)
    have hRj:=hOat j (by omega) (by omega)
    have hxj:O[j]'(by omega)=z:=by simp only[hO0,←hj];simp
    rw[hxj]at hRj
    have hokx:zcw z:=hOok z (by rw[hO0];simp)
    obtain⟨xO,rfl⟩:=Option.isSome_iff_exists.1 (zaR hgj)
    obtain⟨cx,hcx⟩:∃cx,LO[j]'(by omega)=cx:=⟨_,rfl⟩
    rw[hcx]at hgj hRj
    rw[hOj]at hvO ⊢
    refine zaK (fun _=>false) [(0,true),(1,true),(2,true),(3,true),(4,true),(5,true),(6,true),(7,true),(8,true),(9,true),(10,false),(11,true),(12,true)] NoS mixed (by kernel_rfl) ?_;intro gd K x hgd hx hxe hK;clear hxe
    have hg2:∀n σ b,zap gd n σ (some (2,b))=zah (ev n σ (.tmp 26)) b:=(fun n σ b=>by rw[zab,show gd 2=some 26 from(by rw[hgd];rfl)];rfl)
    have d1:=zai hx hgj
    have d2:=zai hx hg9
    simp (disch:=first|omega|assumption|rfl) only[go_sem,h18,h17,h16,h7,hvO,hs1,hs2,hn,hs,hj0,hj1,d1,d2,hOj,↓hg2]
    refine Fn.mono (zcN x cx r.1.1 z r.1.2 (hRj.ext ((hE02.trans hE4).trans hx)) (hUr.1.ext ((hE02.trans hE4).trans hx)) hokx hUr.2) ?_
    rintro _ x2 ⟨rfl,hx2⟩
    refine⟨.inr hx2,?_⟩
    simp (disch:=first|omega|assumption|rfl) only[go_sem,↓hg2]
    refine hK _ _ ?_;clear hK hgd;clear K;try clear gd
    exact⟨rfl,rfl,by rw[hal];simp only[go_sem],(vq1 h18),(vq1 h17),(vq1 h16),(vq2 h7 hvO),(vq1 hs1),(vq1 hs2),vq0,vq0,hx.trans hx2⟩
  rintro _ σ2 _ v2 ⟨rfl,rfl,g36,g18,g17,g16,g7,gs1,gs2,g9,g10,hE5⟩
  have hE6:=hE4.trans hE5
  have hO2:=hO1.ext hE5
  have hg92:=zai hE5 hg9
  have hi1':(i:Int)+1=((i+1:Nat):Int):=by push_cast;rfl
  have htk:Z.take (i+1)=Z.take i++ [r]:=by rw[zag hiZ,hr]
  have hf1:zbC zau minT (fun x:RI=>x.1.2) (Z.take (i+1)) []=putC zau minT r.1.2 O:=by
   rw[htk,hOf];unfold zbC;rw[List.foldl_append];rfl
  have hdr:Z.drop i=r::Z.drop (i+1):=by rw[List.drop_eq_getElem_cons hiZ,hr]
  have hn1:(putC zau minT r.1.2 O).Pairwise (fun a b=>zau a b<0):=zbq cpr_R zhZ hOs
  have hn2:∀o∈putC zau minT r.1.2 O,∀z∈Z.drop (i+1),¬0<zau o z.1.2:=by
   refine zdl (Q:=fun o=>∀z∈Z.drop (i+1),¬0<zau o z.1.2) (fun x hx h0 z hz=>?_) (fun z hz=>?_) (fun o ho z hz=>hOle o ho z (by rw[hdr];exact List.mem_cons_of_mem _ hz))
   ·have e1:zau (minT x r.1.2) z.1.2=zau x z.1.2:=rfl
    rw[e1];exact hx z hz
   ·have h3:=List.Pairwise.sublist (List.drop_sublist i Z) hs
    rw[hdr]at h3
    have h4:=(List.pairwise_cons.1 h3).1 z hz
    rcases h4 with h4|h4
    ·omega
    ·omega
  have hn3:∀o∈putC zau minT r.1.2 O,zcw o:=zdl (fun x hx _=>⟨hx.lb,hx.len,hx.dat⟩) hUr.2 hOok
  repeat refine c_r ?_
  refine zaL (t:=zdh O r.1.2) (by simp only[go_sem,g36]) ?_ ?_
  ·intro hal
   rcases List.eq_nil_or_concat O with hO0| ⟨O',z,hO0⟩
   ·rw[hO0]at hal;simp[zdh]at hal
   rw[List.concat_eq_append]at hO0
   have hz0:zau z r.1.2=0:=by unfold zdh at hal;rw[hO0]at hal;simpa using hal
   obtain⟨j,hj⟩:∃j,O'.length=j:=⟨_,rfl⟩
   have hOj:O.length=j+1:=by rw[hO0];simp[hj]
   have hs:((j+1:Nat):Int) - 1=(j:Int):=by omega
   have hj0:(0:Int)≤(j:Int):=by omega
   have hj1:(j:Int)<((j+1:Nat):Int):=by omega
   have hRj:=hOat j (by omega) (by omega)
   have hxj:O[j]'(by omega)=z:=by simp only[hO0,←hj];simp
   rw[hxj]at hRj
   have hokz:zcw z:=hOok z (by rw[hO0];simp)
   obtain⟨cx,hcx⟩:∃cx,LO[j]'(by omega)=cx:=⟨_,rfl⟩
   rw[hcx]at hRj
   rw[hOj]at hvO g10 g7
   rcases hO2.cases with ⟨hv0,h0⟩| ⟨b,cap,hvb,hbB,hbc,hbm,hSD⟩
   ·rw[h0]at hOl;simp at hOl;omega
   rw[hvO,hOl,hOj]at hvb
   have hao:aO=some ⟨b,0,Option.none⟩:=by injection hvb
   have hcap:cO=cap:=by injection hvb
   subst hao hcap
   have hdj:=hSD.get (j:=j) (by omega)
   rw[hcx]at hdj
   repeat refine c_r ?_
   refine zaK (fun i=>i==12) [(0,true),(1,true),(2,true),(3,true),(4,true),(5,true),(6,true),(7,true),(8,true),(9,true),(10,false),(11,true),(12,false)] NoS mixed (by kernel_rfl) ?_;intro gd K x hgd hx hxe hK;clear hxe
   have d1:=zai hx hdj
   have d2:=zai hx hg92
   simp (disch:=first|omega|assumption|rfl) only[go_sem,g7,g10,gs2,g9,hs,hj0,hj1,d1,d2]
   refine Fn.mono (zfT x cx r.1.1 z r.1.2 (hRj.ext ((hE02.trans hE6).trans hx)) (hUr.1.ext ((hE02.trans hE6).trans hx))) ?_
   rintro _ v3 ⟨rfl,hE7⟩
   refine⟨.inr hE7,?_⟩
   simp (disch:=first|omega|assumption|rfl) only[go_sem,g7,g10,hs,hj0,hj1]
   have hSD3:=(hSD.ext hx).ext hE7
   have hRm:=hRj.minT (b:=r.1.2)
   refine SD.set (P:=Tryz.prog) (t:=35) hSD3 (j:=j) (by omega) hRm.len hRm.ones rfl rfl ?_
   intro v4 hv4 hL4 hk4
   refine⟨.inl rfl,?_⟩
   simp (disch:=first|omega|assumption|rfl) only[go_sem]
   refine hK _ _ ?_;clear hK hgd;clear K;try clear gd
   have hE8:Ext w2 v4:=Keep.to_ext ((hE6.trans hx).trans hE7) rfl (fun i hi=>by omega) hk4
   repeat refine c_r ?_
   refine rg2 g18 hi1' ?_
   repeat refine c_r ?_
   have hO4:=OwnK.of_sd (B:=w2.heap.size) hL4 hbB (by rw[List.length_set];exact hbc) hbm
   have hLl:LO.length=j+1:=by omega
   rw[List.length_set,hLl]at hO4
   have hput:putC zau minT r.1.2 O=O'++ [minT z r.1.2]:=by
    rw[hO0]at hOs hOle ⊢
    rw[zf5 cpr_R hOs (by omega),if_pos hz0]
   rw[hput]at hn1 hn2 hn3
   subst hO0
   refine⟨m - 1,by omega,rfl,i+1,.slice (some ⟨b,0,Option.none⟩) (j+1) cO,_,O'++ [minT z r.1.2],by omega,vq0,(vq1 g17),(vq1 g16),(vq1 g7),by simp only[go_sem,gs1],by simp only[go_sem,gs2],hO4,by simp[hLl,hj],recs_set hj hLl hOat hRm,hn3,by simp at hOi ⊢;omega,by rw[hf1,hput],hE8,hn1,hn2⟩
  ·intro hal
   have hput:putC zau minT r.1.2 O=O++ [r.1.2]:=by
    rcases List.eq_nil_or_concat O with hO0| ⟨O',z,hO0⟩
    ·rw[hO0];rfl
    ·rw[List.concat_eq_append]at hO0
     have hz0:¬zau z r.1.2=0:=by unfold zdh at hal;rw[hO0]at hal;simpa using hal
     have hle:=hOle z (by rw[hO0];simp) r (by rw[hdr];simp)
     rw[hO0]at hOs ⊢
     rw[zf5 cpr_R hOs hle,if_neg hz0]
     simp
   rw[hput]at hn1 hn2 hn3
   rw[hvO]at hO2
   repeat refine c_r ?_
   refine rq ?_;intro gd K hgd hK
   try simp (disch:=first|omega|assumption|rfl) only[go_sem,g7,g9,hg92]
   refine zin (k:=7) (by rfl) (by rfl) (by rfl) (by rfl) hUr.1.len (by decide) hUr.1.ones ?_
   intro x1 hX1 hXs hXo
   try simp only[go_sem]
   refine zfC (k:=7) (B:=w2.heap.size) (hO2.ext hX1) hXo.rowK (by rfl) (by rfl) (by rfl) (by rfl) (by rfl) (by rfl) (by decide) (by rfl) (by rfl) hXo.len hXo.ones (by simp;omega) (by decide) (hE6.trans hX1).size ?_
   intro vO' x2 hO3 hE7 _ _ _
   try simp only[go_sem]
   refine hK _ _ ?_;clear hK hgd;clear K;try clear gd
   repeat refine c_r ?_
   refine rg2 g18 hi1' ?_
   repeat refine c_r ?_
   refine⟨m - 1,by omega,rfl,i+1,vO',_,O++ [r.1.2],by omega,vq0,(vq1 g17),(vq1 g16),vq0,by simp only[go_sem,gs1],by simp only[go_sem,gs2],hO3,by simp[hOl],zhy hOl hOat hUr.1,hn3,by simp;omega,by rw[hf1,hput],hE7 w2 (hE6.trans hX1) (Nat.le_refl _),hn1,hn2⟩
 ·intro hlt
  simp only[decide_eq_false_iff_not]at hlt
  have hiZ:i=Z.length:=by omega
  repeat refine c_r ?_
  refine rq ?_;intro gd K hgd hK
  try simp (disch:=first|omega|assumption|rfl) only[go_sem,h7]
  obtain⟨aO,cO,hvO,hcO,hgO⟩:=hO.rowK
  have hblk:BlkB w2.heap.size v vO:=Owns.blk (C:=RecAt w0) (xs:=O) ⟨LO,hO,hOl,hOat⟩
  rw[hvO]at hblk
  rw[hvO]
  refine Fn.mono (P_rr.Clip_ok hcO) ?_
  rintro _ v1 ⟨rfl,hv1⟩
  try simp only[go_sem]
  refine hK _ _ ?_;clear hK hgd;clear K;try clear gd
  repeat refine c_r ?_
  have hfin:O=zba R:=by
   rw[hOf,hiZ,List.take_length,zde (jn:=minT) cpr_R zhZ (lt:=ltR) (older:=ze0) (fun h=>h.imp id (fun h=>h.2)) (fun {a b} h h'=>by unfold ze0 at h h';omega) D Z [] hDo hs hp List.Pairwise.nil]
   unfold zba zbC
   rw[←hDr,List.foldl_map];rfl
  refine rt0 Tryz.ntmps117 ?_
  rw[hv1]
  rw[←hfin]
  exact⟨⟨LO,⟨aO,LO.length,rfl,Nat.le_refl _,hgO⟩,hOl,hOat⟩,hE2.trans hE3,hblk.same.mono hE2.size⟩
theorem Canon_ok(w0 w:World)(hE0:Ext w0 w){v:Value}{R:List RecL}(hR:Rows 7 (RecAt w0) w v R)(hok:∀r∈R,zcw r)(hlen:R.length≤1000000000):
  Fn Tryz.prog 54 #[v] w (fun u w'=>Rows 7 (RecAt w0) w' u (zba R)∧Ext w w'∧BlkB w.heap.size w' u):=by
 refine enter Tryz.func54 Tryz.ntmps54 rfl rfl ?_
 repeat refine c_r ?_
 refine rg0 ?_
 repeat refine c_r ?_
 refine rq ?_;intro gd K hgd hK
 try simp only[go_sem]
 refine Fn.mono (few_ok w0 w hE0 hR hok hlen) ?_
 rintro u w1 ⟨h1,hE1,hb⟩
 try simp only[go_sem]
 refine hK _ _ ?_;clear hK hgd;clear K;try clear gd
 repeat refine c_r ?_
 refine rt0 Tryz.ntmps54 ?_
 exact⟨h1,hE1,hb⟩
def zed(R:List RecL):Lab:=R.flatMap fun r=>recT r++ [10]
theorem zf1{r:RecL}(hT:RecT r):(recT r).length≤400000000:=by
 obtain⟨g1,g2⟩:=zcx (fx:=hexU) (fun u hu=>by have:=zcF 3 u (by simpa using hu);omega) hT.dat
 have a1:=zbE hT.ow.1 hT.ow.2
 have hu2:=hT.tl
 have a2:=zbs 19 r.ttl.toNat (by omega)
 have a3:=zfv hT.ty.1 hT.ty.2
 have a4:=za7 [32] (zbD hexU r.dat)
 have a5:=za7 [32] [zbx r.owner,numT r.ttl,[73,78],tyT r.dat.ty,zcQ hexU r.dat]
 rw[show ([32]:Lab).length=1 from rfl]at a4 a5
 unfold recT
 simp only[zar,List.map_cons,List.map_nil,List.sum_cons,List.sum_nil,List.length_cons,List.length_nil]at a5
 unfold zcQ at a5 ⊢
 unfold numT at a5 ⊢
 omega
theorem ze3{R:List RecL}(hT:∀r∈R,RecT r):(zed R).length≤400000001*R.length:=by
 induction R with
 |nil=>exact Nat.zero_le _
 |cons r R ih=>
  have h1:=ih fun x hx=>hT x (List.mem_cons_of_mem _ hx)
  have h2:=zf1 (hT r (List.mem_cons_self ..))
  unfold zed at*
  rw[List.flatMap_cons,List.length_append,List.length_append,show([10]:Lab).length=1 from rfl]
  show _≤400000001*(R.length+1)
  omega
theorem Lines_ok{w:World}(hW:WY w){v:Value}{R:List RecL}(hR:Rows 7 (RecAt w) w v R)(hT:∀r∈R,RecT r)(hl:R.length≤100):Fn Tryz.prog 47 #[v] w (fun u w'=>u=vs (zed R)∧Ext w w'):=by
 obtain⟨a,c,rfl,hc,hg⟩:=hR.open
 refine enter Tryz.func47 Tryz.ntmps47 rfl rfl ?_
 refine go trivial ?_
 refine zaI ?_
 intro w1 hE1 hs1 hA
 refine go trivial ?_
 refine zc6 R.length (fun i σ v=>σ 3= .pointer (some ⟨w.heap.size,0,Option.none⟩)∧σ 6= .slice a R.length c∧σ 7=vi R.length∧σ 8=vi i∧Ext w v∧w1.heap.size≤v.heap.size∧Bld w1.heap.size v w.heap.size (zed (R.take i))) ?_ ?_ ?_
 ·exact⟨vr0,vr0,vr0,vr0,hE1,Nat.le_refl _,⟨⟨_,_,.inl rfl,hA,Own.nil _ _ _⟩⟩⟩
 ·rintro i σ v hi p ⟨s3,s6,s7,s8,hE,hsv,hB⟩
  obtain⟨cs,g0,hcs⟩:=hg i hi
  have g:=zai hE g0
  obtain⟨r,hr⟩:∃r,R[i]=r:=⟨_,rfl⟩
  rw[hr]at hcs
  have hrT:RecT r:=hr▸hT _ (List.getElem_mem hi)
  obtain⟨xa,rfl⟩:=Option.isSome_iff_exists.1 (zaR g)
  obtain⟨xi,hxi⟩:∃xi,adr (some xa) (i*7)=some xi:=⟨_,rfl⟩
  rw[hxi]at g
  have hi0:(0:Int)≤(i:Int):=by omega
  have hi1:(i:Int)<(R.length:Int):=by omega
  have hi2:(i:Int)+1=((i+1:Nat):Int):=by push_cast;rfl
  have hc7:=hcs.len
  have hll:=ze3 (R:=R.take i) fun x hx=>hT x (List.mem_of_mem_take hx)
  have hrl:=zf1 hrT
  rw[List.length_take]at hll
  have hmul:400000001*min i R.length≤400000001*100:=Nat.mul_le_mul_left _ (by omega)
  refine go (an5 s3 s6 s7 s8 p) ?_
  refine rq ?_;intro gd K hgd hK
  try simp (disch:=first|omega|assumption|rfl) only[go_sem,s3,s6,s8,hi0,hi1,hxi,g]
  refine zd8 (P:=Tryz.prog) (l:=cs) (by rw[hc7];rfl) hcs.ones (by rw[hc7];rfl) rfl ?_
  intro v1 hEv1 hsv1 hBv
  try simp only[go_sem]
  refine hK _ _ ?_;clear hK hgd;clear K;try clear gd
  have q:=za4 (n:=7) hBv hc7.symm
  have hWv:=(hW.ext hE).ext hEv1
  refine go trivial ?_
  refine rc q (zgB hWv (hcs.ext (hE.trans hEv1)) hrT) ?_
  rintro _ v2 ⟨rfl,hE2⟩
  have l1:(recT r).length+([10]:Lab).length≤9223372036854775807:=by simp;omega
  have hB2:=(hB.ext' hEv1).ext' hE2
  have hs2:=hE2.size
  refine rd (an2 s3 l1) (zaC (s:=recT r++ [10]) hB2 (by have:=hEv1.size;omega) (by rw[List.length_append,show([10]:Lab).length=1 from rfl];omega)) ?_
  rintro _ v3 ⟨hB3,hk3⟩
  have hs3:=hk3.size
  have hsx:=hEv1.size
  refine rgo (an5 s3 s6 s7 s8 hi2) ?_
  refine⟨rfl,(vq1 s3),(vq1 s6),(vq1 s7),(vq1 hi2),Keep.to_ext ((hE.trans hEv1).trans hE2) rfl (fun b hb=>by omega) hk3,by omega,?_⟩
  rw[zag hi,hr]
  unfold zed at*
  rw[List.flatMap_append,List.flatMap_singleton]
  exact hB3
 ·rintro σ v p ⟨s3,s6,s7,s8,hE,hsv,hB⟩
  rw[List.take_length]at hB
  have hll:=ze3 hT
  have hmul:400000001*R.length≤400000001*100:=Nat.mul_le_mul_left _ hl
  refine go (an4 s6 s7 s8 p) ?_
  refine rc s3 (zb4 hB (by omega)) ?_
  rintro _ v1 ⟨rfl,hk1⟩
  refine rgo trivial ?_
  refine rt0 Tryz.ntmps47 ?_
  exact⟨rfl,Keep.to_ext hE rfl (fun b hb=>by omega) hk1⟩
def zcm(n o:Nm):Lab:=if zao n=zao o then [64] else if zgv n o=true then zby [46] ((n.take (n.length - o.length)).map zaZ) else zbx n
def NmT(n:Nm):Prop:=(∀l∈n,l.length≤1000)∧n.length≤1000
theorem NmT.lb{n:Nm}(h:NmT n):LB n:=fun l hl=>by have:=h.1 l hl;omega
theorem zeH{w:World}{nv ov:Value}{n o:Nm}(hn:Row w nv (n.map vs))(ho:Row w ov (o.map vs))(hnT:NmT n)(hoT:NmT o):Fn Tryz.prog 19 #[nv,ov] w (fun u w'=>u=vs (zcm n o)∧Ext w w'):=by
 have hn2:=hnT.2
 have ho2:=hoT.2
 refine enter Tryz.func19 Tryz.ntmps19 rfl rfl ?_
 refine go trivial ?_
 refine rc trivial (zix w nv ov n o hn ho hnT.lb hoT.lb (by omega) (by omega)) ?_
 rintro _ w1 ⟨rfl,hE1⟩
 unfold zcm
 by_cases hs:zao n=zao o
 ·rw[if_pos hs]
  refine rgo (decide_eq_true hs) ?_
  refine rt0 Tryz.ntmps19 ?_
  exact⟨rfl,hE1⟩
 rw[if_neg hs]
 refine rgo (decide_eq_false hs) ?_
 refine rc trivial (Under_ok w1 nv ov n o (hn.ext hE1) (ho.ext hE1) hnT.lb hoT.lb (by omega) (by omega)) ?_
 rintro _ w2 ⟨rfl,hE2⟩
 have hE12:=hE1.trans hE2
 cases hu:zgv n o with
 |false=>
  rw[if_neg (by decide)]
  refine rgo hu ?_
  refine rc trivial (zdu w2 nv n (hn.ext hE12) (fun l hl=>by have:=hnT.1 l hl;omega) hnT.2) ?_
  rintro _ w3 ⟨rfl,hE3⟩
  refine rgo trivial ?_
  refine rt0 Tryz.ntmps19 ?_
  exact⟨rfl,hE12.trans hE3⟩
 |true=>
 have hol:o.length≤n.length:=by
  have h:=hu
  unfold zgv at h
  simp only[Bool.and_eq_true,decide_eq_true_eq]at h
  exact h.1
 rw[if_pos rfl]
 obtain⟨an,cn,rfl,hcn,hgn⟩:=hn
 obtain⟨ao,co,rfl,hco,hgo⟩:=ho
 rw[List.length_map]at hcn hco
 rw[show (n.map vs).length=n.length from List.length_map ..,show(o.map vs).length=o.length from List.length_map ..]
 obtain⟨M,hM⟩:∃M,n.length - o.length=M:=⟨_,rfl⟩
 have e1:(n.length:Int) - (o.length:Int)=(M:Int):=by omega
 have z1:(0:Int)≤(M:Int):=by omega
 have l1:(M:Int)≤(cn:Int):=by omega
 have hite:(if cn=0 then an else an)=an:=ite_self _
 refine rgo (an7 hu e1 z1 l1 (zaH an) hite (an2 (Nat.sub_zero M) (Nat.sub_zero cn))) ?_
 have hMn:M≤n.length:=by omega
 have hgx:∀i (hi:i<M),zaf w2 (adr an i)=some (vs ((n.take M)[i]'(by rw[List.length_take];omega))):=fun i hi=>by
  have h1:=zaa hE12 (hgn i (by rw[List.length_map];omega))
  rw[List.getElem_map]at h1
  rw[List.getElem_take];exact h1
 have htl:(n.take M).length=M:=by rw[List.length_take];omega
 obtain⟨N,hN⟩:∃N,n.take M=N:=⟨_,rfl⟩
 have hNT:∀l∈N,l.length≤1000:=fun l hl=>hnT.1 l (List.mem_of_mem_take (hN▸hl))
 simp only[hN]at hgx htl
 refine zc6 M (fun i σ v=>σ 25= .slice an M cn∧σ 26=vi M∧σ 27=vi i∧(∃sv,σ 5=sv∧Own w2.heap.size v 9 sv (((N.take i).map zaZ).map vs))∧Ext w2 v) ?_ ?_ ?_
 ·exact⟨vr0,vr0,vr0,⟨_,vr0,Own.nil _ _ _⟩,Keep.refl _ _⟩
 ·rintro i σ v hi p ⟨s25,s26,s27,⟨sv,s5,hown⟩,hE⟩
  have hiN:i<N.length:=by omega
  have g:=zaa hE (hgx i hi)
  obtain⟨l,hl⟩:∃l,N[i]=l:=⟨_,rfl⟩
  rw[hl]at g
  have hlT:=hNT l (hl▸List.getElem_mem hiN)
  obtain⟨xa,rfl⟩:=Option.isSome_iff_exists.1 (zae g)
  have hi0:(0:Int)≤(i:Int):=by omega
  have hi1:(i:Int)<(M:Int):=by omega
  have hi2:(i:Int)+1=((i+1:Nat):Int):=by push_cast;rfl
  have hsv:=hE.size
  refine go (an7 s25 s26 s27 s5 p g (an2 hi0 hi1)) ?_
  refine rq ?_;intro gd K hgd hK
  try simp (disch:=first|omega|assumption|rfl) only[go_sem,s5]
  refine Fn.mono (zgp v l (by omega)) ?_
  rintro _ y0 ⟨rfl,hy0⟩
  try simp (disch:=first|omega|assumption|rfl) only[go_sem,s5]
  refine zbM (z:=vs []) rfl rfl rfl rfl rfl ?_
  intro y1 hy1 hys1 hyo
  try simp (disch:=first|omega|assumption|rfl) only[go_sem,s5]
  have hsy0:=hy0.size
  have hxy1:=hy0.trans hy1
  refine zbr (e:=9) (hown.ext hxy1) hyo.row rfl rfl rfl rfl rfl rfl ((vr1 s5)) (vr0) (fun q hq=>by simp at hq;subst hq;rfl) (by simp;omega) (by decide) (by omega) ?_
  intro sv' y2 hown2 hX2 hK2 hb2
  try simp only[go_sem]
  refine hK _ _ ?_;clear hK hgd;clear K;try clear gd
  refine go (an5 s25 s26 s27 hi2 s5) ?_
  refine⟨rfl,(vq1 s25),(vq1 s26),(vq1 hi2),⟨sv',vr0,?_⟩,hX2 w2 (hE.trans hxy1) (Nat.le_refl _)⟩
  rw[show ((N.take (i+1)).map zaZ).map vs=((N.take i).map zaZ).map vs++ [vs (zaZ l)] by rw[zag hiN,hl];simp]
  exact hown2
 ·rintro σ v p ⟨s25,s26,s27,⟨sv,s5,hown⟩,hE⟩
  rw[←htl,List.take_length]at hown
  refine go (an5 s25 s26 s27 p s5) ?_
  have hln:zar (N.map zaZ)≤4000*N.length:=zbH fun l hl=>by
   have h1:=zbo l
   have h2:=hNT l hl
   omega
  have h4:4000*N.length≤4000*1000:=Nat.mul_le_mul_left _ (by omega)
  refine rc s5 (zc7 (sep:=[46]) hown.row (by rw[List.length_map];omega) (by decide) (by decide) (by omega)) ?_
  rintro _ v1 ⟨rfl,hE3⟩
  refine rgo trivial ?_
  refine rt0 Tryz.ntmps19 ?_
  rw[hM,hN]
  exact⟨rfl,(hE12.trans hE).trans hE3⟩
def zfa(R:List RecL)(i:Nat):Bool:=decide (i=0)||!decide ((R[i]?.map RecL.owner)=(R[i - 1]?.map RecL.owner))
def zbi(R:List RecL):List (Nat×Bool):=(List.range R.length).map fun i=>(i,zfa R i)
theorem zb9(R:List RecL):(zbi R).length=R.length:=by simp[zbi]
theorem zca{R:List RecL}{i:Nat}(h:i<(zbi R).length):(zbi R)[i]=(i,zfa R i):=by simp[zbi]
def encF(w0:World)(R:List RecL)(x:Nat×Bool)(_:World)(args:Array Value):Prop:=∃cs r,R[x.1]? =some r∧RecAt w0 cs r∧args=#[.agg cs.toArray,.bool x.2]
theorem Fresh_ok(w:World)(a:Option Addr)(n c:Nat):Fn Tryz.prog 62 #[.slice a n c] w (fun u w'=>u= .func (.func 123) #[] #[.pointer (some ⟨w.heap.size,0,Option.none⟩)]∧Ext w w'∧w'.heap.size=w.heap.size+1∧w'.heap[w.heap.size]? =some (.cells #[.slice a n c] 22 (0,0))):=by
 refine enter Tryz.func62 Tryz.ntmps62 rfl rfl ?_
 repeat refine c_r ?_
 refine rg0 ?_
 repeat refine c_r ?_
 refine zaI ?_
 intro w1 hE1 hs1 hA
 refine go trivial ?_
 refine rt0 Tryz.ntmps62 ?_
 exact⟨rfl,hE1,hs1,hA⟩
theorem zhu{w:World}{v:Value}{ps:List Lab}(h:Row w v (ps.map vs)):∃a c,v= .slice a ps.length c∧∀i (hi:i<ps.length),∃x,a=some x∧zaf w (adr (some x) i)=some (vs ps[i]):=by
 obtain⟨a,c,rfl,_,hg⟩:=h
 refine⟨a,c,by rw[List.length_map],fun i hi=>?_⟩
 have g:=hg i (by rw[List.length_map];exact hi)
 rw[List.getElem_map]at g
 obtain⟨x,rfl⟩:=Option.isSome_iff_exists.1 (zae g)
 exact⟨x,rfl,g⟩
theorem zhc{w:World}{av bv:Value}{p q:Nm}(ha:Row w av (p.map vs))(hb:Row w bv (q.map vs))(hp:p.length≤1000000000)(hq:q.length≤1000000000):
  Fn Tryz.prog 124 #[av,bv] w (fun v w'=>v= .bool (decide (p=q))∧Ext w w'):=by
 obtain⟨a,c,rfl,hga⟩:=zhu ha
 obtain⟨b,d,rfl,hgb⟩:=zhu hb
 refine enter Tryz.func124 Tryz.ntmps124 rfl rfl ?_
 by_cases hlen:p.length=q.length
 rotate_left
 ·have h1:decide ((p.length:Int)=(q.length:Int))=false:=decide_eq_false (by omega)
  refine go h1 ?_
  refine rt0 Tryz.ntmps124 ?_
  exact⟨by rw[decide_eq_false fun h=>hlen (by rw[h])],Keep.refl _ _⟩
 have h1:decide ((p.length:Int)=(q.length:Int))=true:=decide_eq_true (by omega)
 refine go h1 ?_
 refine zc6 p.length (fun i σ v=>(σ 13=vi i∧σ 12=vi p.length∧σ 0= .slice a p.length c∧σ 1= .slice b q.length d)∧Ext w v∧p.take i=q.take i) ?_ ?_ ?_
 ·exact⟨⟨vr0,vr0,vq0,vq0⟩,Keep.refl _ _,rfl⟩
 ·rintro i σ v hi r ⟨s,hE,ht⟩
  obtain⟨x1,rfl,g1⟩:=hga i hi
  obtain⟨x2,rfl,g2⟩:=hgb i (by omega)
  have hi2:(i:Int)<(q.length:Int):=by omega
  refine go (an2 s r) ?_
  obtain⟨t,htt⟩:∃t,decide (p[i]=q[i])=t:=⟨_,rfl⟩
  refine zaA (Q:=fun e σ' ds' v'=>e= .normal∧ds'=[]∧(σ' 13=vi i∧σ' 12=vi p.length∧σ' 0= .slice (some x1) p.length c∧σ' 1= .slice (some x2) q.length d)∧Ext v v'∧σ' 24= .bool (!t)) ?_ ?_
  ·refine zaK (fun _=>false) [(0,true),(1,true),(2,true),(3,true),(4,true),(5,true),(6,true),(7,true),(8,true)] NoS mixed (by kernel_rfl) ?_;intro gd K x hgd hx hxe hK;clear hxe
   have e1:=zaa (hE.trans hx) g1
   have e2:=zaa (hE.trans hx) g2
   simp (disch:=first|omega|assumption|rfl) only[go_sem,s,r,hi2,e1,e2,htt]
   refine hK _ _ ?_;clear hK hgd;clear K;try clear gd
   exact⟨rfl,rfl,sc s,hx,vr0⟩
  clear s
  rintro _ σ1 _ v1 ⟨rfl,rfl,s,hv1,s25⟩
  cases t with
  |true=>
   refine go (an3 s r s25) ?_
   refine⟨rfl,sc (an2 s r),hE.trans hv1,?_⟩
   rw[zag hi,zag (by omega),ht,of_decide_eq_true htt]
  |false=>
   refine go (an2 s s25) ?_
   refine rt0 Tryz.ntmps124 ?_
   exact⟨by rw[decide_eq_false fun h=>(of_decide_eq_false htt) (by subst h;rfl)],hE.trans hv1⟩
 ·rintro σ v r ⟨s,hE,ht⟩
  refine go (an2 s r) ?_
  refine rt0 Tryz.ntmps124 ?_
  rw[List.take_length,hlen,List.take_length]at ht
  exact⟨by rw[decide_eq_true ht],hE⟩
theorem freshIt{w0 W0:World}{n0:Nat}{C:Nat→Prop}{b:Nat}{T:TypeId}{fr:Nat×Nat}{v:Value}{R:List RecL}(hE0:Ext w0 W0)(hR:Rows 7 (RecAt w0) w0 v R)(hb:W0.heap[b]? =some (.cells #[v] T fr))(hbn:b<n0)(hbC:¬C b)(hC:∀b,C b→w0.heap.size≤b)(hn0:w0.heap.size≤n0)(hl:R.length≤100000)(hrl:∀r∈R,r.owner.length≤1000000):
  Iter Tryz.prog 123 #[.pointer (some ⟨b,0,Option.none⟩)] W0 n0 C (zbi R) (encF w0 R):=by
 intro lp J Jx W hW hnW hJ hJx hY h0
 obtain⟨a,c,rfl,hc,hg⟩:=hR.open
 have cell1:∀{v:World},KeepB n0 C W v→zaf v (some ⟨b,0,Option.none⟩)=some (.slice a R.length c):=fun hk=>zce hk hbn hbC (zac (hW.at hb) rfl)
 -- what lay in w0 is kept
 have hEW:=hE0.trans hW
 have old:∀{v:World},KeepB n0 C W v→Ext w0 v:=fun {v} hk=>
  ⟨hk.os.trans hEW.os,hk.tape.trans hEW.tape,hk.output.trans hEW.output,Nat.le_trans hEW.size hk.size,fun b hb _=>(hk.block b (by omega) (fun h=>by have:=hC b h;omega)).trans (hEW.block b hb (fun h=>h)),Nat.le_trans hEW.drawn hk.drawn⟩
 refine enter Tryz.func123 Tryz.ntmps123 rfl rfl ?_
 have c0:=cell1 (KeepB.refl n0 C W)
 refine go c0 ?_
 refine zas (fun m σ ds v=>ds=[]∧∃i,i+m=R.length∧σ 0= .func (.yield lp) #[] #[]∧σ 1= .pointer (some ⟨b,0,Option.none⟩)∧σ 5= .slice a R.length c∧σ 6=vi R.length∧σ 7=vi i∧J ((zbi R).take i) v∧KeepB n0 C W v) R.length ?_ ?_
 ·exact⟨rfl,0,by omega,vr0,vr0,vr0,vr0,vr0,by simpa using h0,KeepB.refl _ _ _⟩
 rintro m σ ds v ⟨rfl,i,him,f0,f1,s5,s6,s7,hj,hK⟩
 by_cases hi:i<R.length
 rotate_left
 ·have d1:decide ((i:Int)<(R.length:Int))=false:=decide_eq_false (by omega)
  refine go (an6 f0 f1 s5 s6 s7 d1) ?_
  refine zaw (by simp) rfl (.inl ?_)
  rw[List.take_of_length_le (by rw[zb9];omega)]at hj
  exact hj
 have d1:decide ((i:Int)<(R.length:Int))=true:=decide_eq_true (by omega)
 have hif:i<(zbi R).length:=by rw[zb9];exact hi
 obtain⟨cs,g0,hcs⟩:=hg i hi
 have g:=zai (old hK) g0
 obtain⟨r,hr⟩:∃r,R[i]=r:=⟨_,rfl⟩
 rw[hr]at hcs
 obtain⟨xa,rfl⟩:=Option.isSome_iff_exists.1 (zaR g)
 obtain⟨xi,hxi⟩:∃xi,adr (some xa) (i*7)=some xi:=⟨_,rfl⟩
 rw[hxi]at g
 have hi0:(0:Int)≤(i:Int):=by omega
 have hi1:(i:Int)<(R.length:Int):=by omega
 have hi2:(i:Int)+1=((i+1:Nat):Int):=by push_cast;rfl
 have hc7:=hcs.len
 refine go (an6 f0 f1 s5 s6 s7 d1) ?_
 refine rq ?_;intro gd K hgd hK
 try simp (disch:=first|omega|assumption|rfl) only[go_sem,s5,s7,hi0,hi1,hxi,g]
 refine zd8 (P:=Tryz.prog) (l:=cs) (by rw[hc7];rfl) hcs.ones (by rw[hc7];rfl) rfl ?_
 intro v1 hEv1 hsv1 hBv
 try simp only[go_sem]
 refine hK _ _ ?_;clear hK hgd;clear K;try clear gd
 have q:=za4 (n:=7) hBv hc7.symm
 have hKv1:KeepB n0 C W v1:=hK.trans (hEv1.toB (by have:=hK.size;omega) (fun _ _ h=>h.elim))
 refine zaq ?_
 by_cases hz:i=0
 ·have dz:decide ((i:Int)=0)=true:=decide_eq_true (by omega)
  repeat refine c_r ?_
  refine zaK (fun i=>i==16) [(0,true),(1,true),(2,true),(3,true),(4,true),(5,true),(6,true),(7,true),(8,true),(9,true),(10,true),(11,true),(12,true),(13,false),(14,true),(15,true),(16,false),(17,true)] NoS mixed (by kernel_rfl) ?_;intro gd K x hgd hx hxe hK;have hx0:=zbc hxe;clear hxe
  have hg4:∀n σ b,zap gd n σ (some (4,b))=zah (ev n σ (.tmp 16)) b:=(fun n σ b=>by rw[zab,show gd 4=some 16 from(by rw[hgd];rfl)];rfl)
  have qx:=zai hx0 q
  simp (disch:=first|omega|assumption|rfl) only[go_sem,f0,f1,qx,dz,↓hg4]
  have hfb:zfa R i=true:=by rw[hz];rfl
  have hKx:KeepB n0 C W x:=hKv1.trans (hx0.toB (by have:=hKv1.size;omega) (fun _ _ h=>h.elim))
  refine Yld.mono (hY ((zbi R).take i) (zbi R)[i] ((zbi R).drop (i+1)) x _ (za5 hif) (hJ _ _ _ hj (hEv1.trans hx0)) hKx ⟨cs,r,by rw[zca];simp only;rw[List.getElem?_eq_getElem hi,hr],hcs,by rw[zca,hfb]⟩) ?_
  rintro u y (⟨rfl,hj',hk'⟩| ⟨rfl,hjx⟩)
  ·refine⟨.inl rfl,?_⟩
   simp (disch:=first|omega|assumption|rfl) only[go_sem,↓hg4]
   refine hK _ _ ?_;clear hK hgd;clear K;try clear gd
   refine go (an7 f0 f1 s5 s6 s7 hi2 d1) ?_
   refine⟨m - 1,by omega,rfl,i+1,by omega,(vq1 f0),(vq1 f1),(vq1 s5),(vq1 s6),(vq1 hi2),?_,hKx.trans hk'⟩
   rw[zag hif];exact hj'
  ·refine⟨.inl rfl,?_⟩
   simp (disch:=first|omega|assumption|rfl) only[go_sem,↓hg4]
   refine hK _ _ ?_;clear hK hgd;clear K;try clear gd
   refine go trivial ?_
   exact zaw (by simp) rfl (.inr ⟨_,_,_,za5 hif,hjx⟩)
 have dz:decide ((i:Int)=0)=false:=decide_eq_false (by omega)
 obtain⟨cs',g0',hcs'⟩:=hg (i - 1) (by omega)
 obtain⟨r',hr'⟩:∃r',R[i - 1]'(by omega)=r':=⟨_,rfl⟩
 rw[hr']at hcs'
 have g':=zai ((old hK).trans hEv1) g0'
 obtain⟨ow,ds,hce,how,_⟩:=hcs.ex
 obtain⟨ow',ds',hce',how',_⟩:=hcs'.ex
 obtain⟨xj,hxj⟩:∃xj,adr (some xa) ((i - 1)*7)=some xj:=⟨_,rfl⟩
 rw[hxj]at g'
 have ej:(i:Int) - 1=((i - 1:Nat):Int):=by omega
 have j0:(0:Int)≤((i - 1:Nat):Int):=by omega
 have j1:((i - 1:Nat):Int)<(R.length:Int):=by omega
 have o0:zaf v1 (some ⟨v.heap.size,0,Option.none⟩)=some ow:=zbF (l:=cs) (j:=0) hBv (by rw[hce];rfl)
 have o1:zaf v1 (some xj)=some ow':=by
  subst hce'
  have:zaf v1 (adr (some xj) 0)=some ow':=zbK g' (j:=0) (by simp)
  rwa [zaH]at this
 have cv:=cell1 hKv1
 repeat refine c_r ?_
 refine zaK (fun i=>i==16) [(0,true),(1,true),(2,true),(3,true),(4,true),(5,true),(6,true),(7,true),(8,true),(9,true),(10,true),(11,true),(12,true),(13,false),(14,true),(15,true),(16,false),(17,true)] NoS mixed (by kernel_rfl) ?_;intro gd K x hgd hx hxe hK;have hx0:=zbc hxe;clear hxe
 have hg4:∀n σ b,zap gd n σ (some (4,b))=zah (ev n σ (.tmp 16)) b:=(fun n σ b=>by rw[zab,show gd 4=some 16 from(by rw[hgd];rfl)];rfl)
 have qx:=zai hx0 q
 have o0x:=zaa hx0 o0
 have o1x:=zaa hx0 o1
 have cvx:=zaa hx0 cv
 simp (disch:=first|omega|assumption|rfl) only[go_sem,f0,f1,qx,dz,o0x,o1x,cvx,ej,j0,j1,hxj,zaH,Nat.zero_add,↓hg4]
 refine Fn.mono (zhc (how.ext ((old hKv1).trans hx0)) (how'.ext ((old hKv1).trans hx0)) (by have:=hrl r (hr▸List.getElem_mem hi);omega) (by have:=hrl r' (hr'▸List.getElem_mem (by omega));omega)) ?_
 rintro _ y0 ⟨rfl,hy0⟩
 refine⟨.inr hy0.keep,?_⟩
 have hxy:=hx0.trans hy0
 have hfb:zfa R i=!decide (r.owner=r'.owner):=by
  unfold zfa
  rw[decide_eq_false hz,Bool.false_or,List.getElem?_eq_getElem hi,List.getElem?_eq_getElem (show i - 1<R.length by omega),hr,hr']
  simp
 simp (disch:=first|omega|assumption|rfl) only[go_sem,↓hg4]
 have hKx:KeepB n0 C W y0:=hKv1.trans (hxy.toB (by have:=hKv1.size;omega) (fun _ _ h=>h.elim))
 refine Yld.mono (hY ((zbi R).take i) (zbi R)[i] ((zbi R).drop (i+1)) y0 _ (za5 hif) (hJ _ _ _ hj (hEv1.trans hxy)) hKx ⟨cs,r,by rw[zca];simp only;rw[List.getElem?_eq_getElem hi,hr],hcs,by rw[zca,hfb]⟩) ?_
 rintro u y (⟨rfl,hj',hk'⟩| ⟨rfl,hjx⟩)
 ·refine⟨.inl rfl,?_⟩
  simp (disch:=first|omega|assumption|rfl) only[go_sem,↓hg4]
  refine hK _ _ ?_;clear hK hgd;clear K;try clear gd
  refine go (an7 f0 f1 s5 s6 s7 hi2 d1) ?_
  refine⟨m - 1,by omega,rfl,i+1,by omega,(vq1 f0),(vq1 f1),(vq1 s5),(vq1 s6),(vq1 hi2),?_,hKx.trans hk'⟩
  rw[zag hif];exact hj'
 ·refine⟨.inl rfl,?_⟩
  simp (disch:=first|omega|assumption|rfl) only[go_sem,↓hg4]
  refine hK _ _ ?_;clear hK hgd;clear K;try clear gd
  refine go trivial ?_
  exact zaw (by simp) rfl (.inr ⟨_,_,_,za5 hif,hjx⟩)
theorem zgs{w:World}(hW:WY w)(u:Nat)(hu:u<4294967296):Fn Tryz.prog 59 #[.int .u32 (u:Nat)] w (fun v w'=>v=vs (Lib.decDigits u)∧Ext w w'):=by
 refine enter Tryz.func59 Tryz.ntmps59 rfl rfl ?_
 refine go trivial ?_
 refine rc trivial (zbA hW u (by omega)) ?_
 rintro _ w1 ⟨rfl,hE1⟩
 refine rgo trivial ?_
 refine rt0 Tryz.ntmps59 ?_
 exact⟨rfl,hE1⟩
theorem zgt{w:World}{v:Value}{xs:List Lab}{B b:Nat}{acc:Lab}(hR:Row w v (xs.map vs))(hx:xs.length≤1000000)(hl:zar xs≤1000000000)(hB:Bld B w b acc)(hBw:B≤w.heap.size)(hacc:acc.length≤50000000000):
  Fn Tryz.prog 56 #[v,.pointer (some ⟨b,0,Option.none⟩)] w (fun _ w'=>Bld B w' b (acc++(zby [32] xs++ [10]))∧Keep (fun i=>i=b∨B≤i) w w'):=by
 have hj:=za7 [32] xs
 rw[show ([32]:Lab).length=1 from rfl]at hj
 refine enter Tryz.func56 Tryz.ntmps56 rfl rfl ?_
 refine rc trivial (zc7 (sep:=[32]) hR hx (by decide) (by decide) hl) ?_
 rintro _ w1 ⟨rfl,hE1⟩
 have l1:(zby [32] xs).length+([10]:Lab).length≤9223372036854775807:=by simp;omega
 have hs1:=hE1.size
 refine rd l1 (zaC (s:=zby [32] xs++ [10]) (hB.ext' hE1) (by omega) (by rw[List.length_append,show([10]:Lab).length=1 from rfl];omega)) ?_
 rintro _ w2 ⟨hB2,hk2⟩
 refine rgo trivial ?_
 exact zaw (by simp) rfl ⟨hB2,(hE1.mono fun _ _ h=>h.elim).trans hk2⟩
end Go.Proofs.YtanmnkbccfcagaaGreatDoor
namespace Go.Proofs.YtanmnkbccfcagaaGreatDoor.M32
open Go Go.Proofs.YtanmnkbccfcagaaGreatDoor
abbrev v32(n:Int):Value:= .int .u32 n
def MapAt(w:World)(r:Nat)(l:List (Int×Value)):Prop:=
 ∃es clk,w.heap[r]? =some (.map es clk)∧es.toList.map (fun e=>(e.key,e.val))=l.map (fun p=>(v32 p.1,p.2))∧(es.toList.map (·.born)).Pairwise (·≠·)∧(∀e∈es.toList,e.born<clk)
theorem MapAt.block{w x:World}{r:Nat}{l:List (Int×Value)}(h:MapAt w r l)(hb:x.heap[r]? =w.heap[r]?):MapAt x r l:=by
 obtain⟨es,clk,h1,h2⟩:=h
 exact⟨es,clk,hb.trans h1,h2⟩
theorem zbW(a b:Int):Instr.sameNow (.int .u32) (v32 a) (v32 b)=some (a==b):=by
 simp[Instr.sameNow]
theorem zbJ{key:Int}:∀(es:List MapEntry) (l:List (Int×Value)) (i:Nat),es.map (fun e=>(e.key,e.val))=l.map (fun p=>(v32 p.1,p.2))→l.lookup key=Option.none→Instr.findNow (.int .u32) (v32 key) es i=some Option.none
 | [],[],_,_,_=>rfl
 | [],_::_,_,h,_=>by simp at h
 |_::_,[],_,h,_=>by simp at h
 |e::es,(k,v)::l,i,h,hl=>by
  simp only[List.map_cons,List.cons.injEq,Prod.mk.injEq]at h
  obtain⟨⟨h1,h2⟩,h3⟩:=h
  simp only[List.lookup_cons]at hl
  split at hl
  ·cases hl
  ·rename_i hne
   simp only[Instr.findNow,h1,zbW,hne]
   exact zbJ es l (i+1) h3 hl
theorem zcG{key:Int}{v:Value}:∀(es:List MapEntry) (l:List (Int×Value)) (i:Nat),es.map (fun e=>(e.key,e.val))=l.map (fun p=>(v32 p.1,p.2))→l.lookup key=some v→∃j,Instr.findNow (.int .u32) (v32 key) es i=some (some (j,v))
 | [],[],_,_,h=>by simp at h
 | [],_::_,_,h,_=>by simp at h
 |_::_,[],_,h,_=>by simp at h
 |e::es,(k,u)::l,i,h,hl=>by
  simp only[List.map_cons,List.cons.injEq,Prod.mk.injEq]at h
  obtain⟨⟨h1,h2⟩,h3⟩:=h
  simp only[List.lookup_cons]at hl
  split at hl
  ·rename_i heq
   cases hl
   exact⟨i,by simp only[Instr.findNow,h1,zbW,heq,h2]⟩
  ·rename_i hne
   simp only[Instr.findNow,h1,zbW,hne]
   exact zcG es l (i+1) h3 hl
def setK(key:Int)(v:Value):List (Int×Value)→List (Int×Value)
 | []=>[]
 |p::l=>if key==p.1 then(p.1,v)::l else p::setK key v l
theorem zgi{key:Int}{u v:Value}:∀(es:List MapEntry) (l:List (Int×Value)) (i:Nat),es.map (fun e=>(e.key,e.val))=l.map (fun p=>(v32 p.1,p.2))→l.lookup key=some u→
  ∃j e,Instr.findNow (.int .u32) (v32 key) es i=some (some (i+j,u))∧es[j]? =some e∧e.key=v32 key∧(es.set j {e with key:=v32 key,val:=v}).map (fun e=>(e.key,e.val))=(setK key v l).map (fun p=>(v32 p.1,p.2))
 | [],[],_,_,h=>by simp at h
 | [],_::_,_,h,_=>by simp at h
 |_::_,[],_,h,_=>by simp at h
 |e::es,(k,x)::l,i,h,hl=>by
  simp only[List.map_cons,List.cons.injEq,Prod.mk.injEq]at h
  obtain⟨⟨h1,h2⟩,h3⟩:=h
  simp only[List.lookup_cons]at hl
  split at hl
  ·rename_i heq
   cases hl
   have hk:key=k:=by simpa using heq
   subst hk
   refine⟨0,e,by simp only[Instr.findNow,h1,zbW,heq,h2];rfl,rfl,h1,?_⟩
   simp[setK,h3]
  ·rename_i hne
   obtain⟨j,e',g1,g2,g3,g4⟩:=zgi (v:=v) es l (i+1) h3 hl
   refine⟨j+1,e',?_,g2,g3,?_⟩
   ·simp only[Instr.findNow,h1,zbW,hne,g1]
    rw[show i+1+j=i+(j+1) by omega]
   ·simp only[List.set_cons_succ,List.map_cons,g4,setK,hne]
    simp[h1,h2]
section
variable {P : Program} {d : Option Tmp} {ty : TypeId} {ps : String} {af : Array Edge} {g : Option (Nat × Bool)} {ρ : Operand → Value} {w : World} {K : Value → World → Prop}
theorem zbY{kt:TypeId}(hk:tyU P kt=some (.int .u32))(n:Nat)(e:Bool)(key:Int):(Instr.checkKey e (n+1) kt (v32 key)).run P w= .ok () w:=by
 simp[Instr.checkKey,run_underlying (show P.underlying kt=_ from hk)]
theorem lk_run{r:Nat}{l:List (Int×Value)}(h:MapAt w r l){t kt et:TypeId}{z:Value}{inf:TypeInfo}(ht:tyU P t=some (.map kt et))(hk:tyU P kt=some (.int .u32))(hi:P.info? et=some inf)(hz:inf.zero=some z)(key:Int):
  (Instr.lookup t (.map (some r)) (v32 key) false).run P w= .ok ((l.lookup key).getD z) w:=by
 obtain⟨es,clk,h1,h2,_⟩:=h
 have hck:∀e,(Instr.checkKey e 10000 kt (v32 key)).run P w= .ok () w:=fun e=>zbY hk 9999 e key
 cases hl:l.lookup key with
 |none=>
  have hf:=zbJ _ _ 0 h2 hl
  simp[Instr.lookup,run_underlying (show P.underlying t=_ from ht),MapKept.run_getObj_map h1,hck,Instr.findKey,run_underlying (show P.underlying kt=_ from hk),hf,zeroValue,typeInfo,hi,hz,Result.andThen]
 |some v=>
  obtain⟨j,hj⟩:=zcG _ _ 0 h2 hl
  simp[Instr.lookup,run_underlying (show P.underlying t=_ from ht),MapKept.run_getObj_map h1,hck,Instr.findKey,run_underlying (show P.underlying kt=_ from hk),hj,zeroValue,typeInfo,hi,hz,Result.andThen]
theorem op_mapUpdate{t kt et:TypeId}{m k x:Operand}{r:Nat}{l:List (Int×Value)}{key:Int}{v:Value}(ht:tyU P t=some (.map kt et))(hk:tyU P kt=some (.int .u32))
  (hm:ρ m= .map (some r)) (hkey:ρ k=v32 key) (hx:ρ x=v) (hat:MapAt w r l) (hno:l.lookup key=Option.none)
  (h:∀w',MapAt w' r (l++ [(key,v)])→Keep (fun i=>i=r) w w'→w'.heap.size=w.heap.size→K undef w'):
  opW P ⟨d,.mapUpdate t m k x,ty,ps,af,g⟩ ρ w K:=by
 obtain⟨es,clk,h1,h2,h3,h4⟩:=hat
 have hf:=zbJ es.toList l 0 h2 hno
 have hrun:(Instr.mapUpdate t (.map (some r)) (v32 key) v).run P w= .ok () (w.putObj r (.map (es.push {key:=v32 key,val:=v,born:=clk}) (clk+1))):=by
  have hck:∀e,(Instr.checkKey e 10000 kt (v32 key)).run P w= .ok () w:=fun e=>zbY hk 9999 e key
  simp[Instr.mapUpdate,run_underlying (show P.underlying t=_ from ht),MapKept.run_getObj_map h1,hck,Instr.findKey,run_underlying (show P.underlying kt=_ from hk),hf,MapKept.run_setObj_map _ h1,Result.andThen]
  rfl
 have hlt:r<w.heap.size:=(Array.getElem?_eq_some_iff.1 h1).1
 have hat':MapAt (w.putObj r (.map (es.push {key:=v32 key,val:=v,born:=clk}) (clk+1))) r (l++ [(key,v)]):=by
  refine⟨_,_,World.putObj_heap_same hlt,by simp[h2],?_,?_⟩
  ·simp only[Array.toList_push,List.map_append,List.map_cons,List.map_nil,List.pairwise_append]
   refine⟨h3,by simp,fun a ha b hb=>?_⟩
   simp at hb;subst hb
   obtain⟨e,he,rfl⟩:=List.mem_map.1 ha
   exact Nat.ne_of_lt (h4 e he)
  ·intro e he
   simp only[Array.toList_push,List.mem_append,List.mem_singleton]at he
   rcases he with he|rfl
   ·exact Nat.lt_succ_of_lt (h4 e he)
   ·exact Nat.lt_succ_self _
 have hfin:=h _ hat' (zaN rfl) (by simp)
 show opR P K ((do Instr.mapUpdate t (ρ m) (ρ k) (ρ x);pure .skip:Sem Next).run P w)
 rw[hm,hkey,hx]
 simp only[Sem.run_bind,hrun,Result.andThen_ok,Sem.run_pure]
 exact hfin
theorem op_mapTurn{t kt et:TypeId}{m k x:Operand}{r:Nat}{l:List (Int×Value)}{key:Int}{u v:Value}(ht:tyU P t=some (.map kt et))(hk:tyU P kt=some (.int .u32))
  (hm:ρ m= .map (some r)) (hkey:ρ k=v32 key) (hx:ρ x=v) (hat:MapAt w r l) (hin:l.lookup key=some u)
  (h:∀w',MapAt w' r (setK key v l)→Keep (fun i=>i=r) w w'→w'.heap.size=w.heap.size→K undef w'):
  opW P ⟨d,.mapUpdate t m k x,ty,ps,af,g⟩ ρ w K:=by
 obtain⟨es,clk,h1,h2,h3,h4⟩:=hat
 obtain⟨j,e,hf,hj,hek,hset⟩:=zgi (v:=v) es.toList l 0 h2 hin
 rw[Nat.zero_add]at hf
 have hj':es[j]? =some e:=by simpa using hj
 have hrun:(Instr.mapUpdate t (.map (some r)) (v32 key) v).run P w= .ok () (w.putObj r (.map (es.modify j fun e=>{e with key:=v32 key,val:=v}) clk)):=by
  have hck:∀e,(Instr.checkKey e 10000 kt (v32 key)).run P w= .ok () w:=fun e=>zbY hk 9999 e key
  have hst:(Instr.keyThatStays (v32 key) (v32 key)).run P w= .ok (v32 key) w:=MapKept.run_keyThatStays (d:= .int .u32) (by unfold MapKept.IsKey;first|exact⟨_,rfl⟩|rfl|simp[v32])
  simp[Instr.mapUpdate,run_underlying (show P.underlying t=_ from ht),MapKept.run_getObj_map h1,hck,Instr.findKey,run_underlying (show P.underlying kt=_ from hk),hf,hj',hek,hst,MapKept.run_setObj_map _ h1,Result.andThen]
  rfl
 have hlt:r<w.heap.size:=(Array.getElem?_eq_some_iff.1 h1).1
 have hmod:(es.modify j fun e=>{e with key:=v32 key,val:=v}).toList=es.toList.set j {e with key:=v32 key,val:=v}:=by
  apply List.ext_getElem?
  intro i
  rw[Array.getElem?_toList,Array.getElem?_modify,List.getElem?_set]
  by_cases hi:j=i
  ·subst hi
   rw[if_pos rfl,if_pos rfl,hj',if_pos (by have:=(List.getElem?_eq_some_iff.1 hj).1;exact this)]
   rfl
  ·rw[if_neg hi,if_neg hi,Array.getElem?_toList]
 have hborn:(es.toList.set j {e with key:=v32 key,val:=v}).map (·.born)=es.toList.map (·.born):=by
  rw[List.map_set]
  apply List.ext_getElem?
  intro i
  rw[List.getElem?_set]
  by_cases hi:j=i
  ·subst hi
   rw[if_pos rfl,List.getElem?_map,hj]
   have hjl:=(List.getElem?_eq_some_iff.1 hj).1
   rw[List.length_map,if_pos hjl];rfl
  ·rw[if_neg hi]
 have hat':MapAt (w.putObj r (.map (es.modify j fun e=>{e with key:=v32 key,val:=v}) clk)) r (setK key v l):=by
  refine⟨_,_,World.putObj_heap_same hlt,by rw[hmod];exact hset,by rw[hmod,hborn];exact h3,fun q hq=>?_⟩
  rw[hmod]at hq
  have:q.born∈es.toList.map (·.born):=by rw[←hborn];exact List.mem_map.2 ⟨q,hq,rfl⟩
  obtain⟨q',hq',e'⟩:=List.mem_map.1 this
  rw[←e'];exact h4 q' hq'
 have hfin:=h _ hat' (zaN rfl) (by simp)
 show opR P K ((do Instr.mapUpdate t (ρ m) (ρ k) (ρ x);pure .skip:Sem Next).run P w)
 rw[hm,hkey,hx]
 simp only[Sem.run_bind,hrun,Result.andThen_ok,Sem.run_pure]
 exact hfin
theorem op_lk32{t kt et:TypeId}{m k:Operand}{r:Nat}{l:List (Int×Value)}{key:Int}{z:Value}{inf:TypeInfo}(ht:tyU P t=some (.map kt et))(hk:tyU P kt=some (.int .u32))(hi:P.info? et=some inf)(hz:inf.zero=some z)
  (hm:ρ m= .map (some r)) (hkey:ρ k=v32 key) (hat:MapAt w r l) (h:K ((l.lookup key).getD z) w):opW P ⟨d,.lookup t m k false,ty,ps,af,g⟩ ρ w K:=by
 have:=zan (P:=P) (K:=K) (lk_run hat ht hk hi hz key) h
 rw[←hm,←hkey]at this
 exact this
theorem new_map(w:World):MapAt (w.alloc (.map #[] 0)) w.heap.size []:=⟨_,_,zak w _,rfl,by simp,by simp⟩
end
def MapIt(w:World)(r m:Nat)(l:List (Int×Value))(pre:List Int):Prop:=
 ∃es clk,∃ds:List MapEntry,w.heap[m]? =some (.map es clk)∧es.toList.map (fun e=>(e.key,e.val))=l.map (fun p=>(v32 p.1,p.2))∧(es.toList.map (·.born)).Pairwise (·≠·)∧(∀e∈es.toList,e.born<clk)∧
  w.heap[r]? =some (.mapIter (some m) clk (ds.map (·.born)).toArray clk)∧(∀d∈ds,d∈es.toList)∧ds.map (·.key)=pre.map v32
theorem MapIt.map{w:World}{r m:Nat}{l:List (Int×Value)}{pre:List Int}(h:MapIt w r m l pre):MapAt w m l:=by
 obtain⟨es,clk,ds,h1,h2,h3,h4,_⟩:=h
 exact⟨es,clk,h1,h2,h3,h4⟩
theorem zhh{a b:Int}(h:v32 a=v32 b):a=b:=by
 simpa [v32] using h
theorem zcY{es:List MapEntry}{l:List (Int×Value)}(h:es.map (fun e=>(e.key,e.val))=l.map (fun p=>(v32 p.1,p.2)))(hn:(l.map (·.1)).Nodup):es.Pairwise (fun x y=>x.key≠y.key):=by
 have h1:es.map (·.key)=l.map (fun p=>v32 p.1):=by
  have:=congrArg (List.map Prod.fst) h
  simpa [List.map_map,Function.comp_def] using this
 have h2:(l.map (fun p=>v32 p.1)).Pairwise (·≠·):=by
  rw[List.pairwise_map]
  have:=List.pairwise_map.1 hn
  exact this.imp (fun hne e=>hne (zhh e))
 rw[←h1,List.pairwise_map]at h2
 exact h2
section
variable {P : Program} {d : Option Tmp} {ty : TypeId} {ps : String} {af : Array Edge} {g : Option (Nat × Bool)} {ρ : Operand → Value} {w : World} {K : Value → World → Prop}
theorem op_range{t kt et:TypeId}{x:Operand}{m:Nat}{l:List (Int×Value)}(ht:tyU P t=some (.map kt et))(hx:ρ x= .map (some m))(hm:MapAt w m l)
  (h:∀w',MapIt w' w.heap.size m l []→Ext w w'→w'.heap.size=w.heap.size+1→K (.pointer (some ⟨w.heap.size,0,Option.none⟩)) w'):
  opW P ⟨d,.range t x,ty,ps,af,g⟩ ρ w K:=by
 obtain⟨es,clk,h1,h2,h3,h4⟩:=hm
 have hrun:(Instr.range t (.map (some m))).run P w= .ok (.pointer (some ⟨w.heap.size,0,Option.none⟩)) (w.alloc (.mapIter (some m) clk #[] clk)):=by
  simp[Instr.range,run_underlying (show P.underlying t=_ from ht),MapKept.run_getObj_map h1,newObj,Sem.run,Result.andThen]
 have hlt:=(Array.getElem?_eq_some_iff.1 h1).1
 show opR P K _
 refine zan (s:=Instr.range t (ρ x)) (by rw[hx];exact hrun) (h _ ⟨es,clk,[],?_,h2,h3,h4,?_,by simp,rfl⟩ (Ext.alloc w _) (by simp))
 ·exact(RowKit.Below.heap_alloc _ _ _ hlt).trans h1
 ·exact zak w _
theorem op_next{x:Operand}{r m:Nat}{l:List (Int×Value)}{pre:List Int}(hx:ρ x= .pointer (some ⟨r,0,Option.none⟩))(hit:MapIt w r m l pre)(hn:(l.map (·.1)).Nodup)
  (h1:(∀k∈l.map (·.1),k∈pre)→K (.tuple #[.bool false]) w)
  (h2:∀k v w',(k,v)∈l→k∉pre→MapIt w' r m l (pre++ [k])→Keep (fun b=>b=r) w w'→w'.heap.size=w.heap.size→K (.tuple #[.bool true,v32 k,v]) w'):
  opW P ⟨d,.next x false,ty,ps,af,g⟩ ρ w K:=by
 obtain⟨es,clk,ds,e1,e2,e3,e4,e5,e6,e7⟩:=hit
 have hap:=zcY e2 hn
 have hmem:∀e:MapEntry,e∈es.toList→∃k v,(k,v)∈l∧e.key=v32 k∧e.val=v:=fun e he=>by
  have:(e.key,e.val)∈l.map (fun p=>(v32 p.1,p.2)):=by rw[←e2];exact List.mem_map.2 ⟨e,he,rfl⟩
  obtain⟨⟨k,v⟩,hp,heq⟩:=List.mem_map.1 this
  simp only[Prod.mk.injEq]at heq
  exact⟨k,v,hp,heq.1.symm,heq.2.symm⟩
 rcases run_next_at (P:=P) w ty r m clk clk (ds.map (·.born)).toArray es clk e5 e1 e4 (Nat.le_refl _) with ⟨h0,hrun⟩| ⟨e,he,w1,hw1,hrun⟩
 ·show opR P K _
  refine zan (s:=Instr.next (ρ x) false ty) (by rw[hx];exact hrun) (h1 fun k hk=>?_)
  obtain⟨⟨k,v⟩,hp,rfl⟩:=List.mem_map.1 hk
  have:(v32 k,v)∈es.toList.map (fun e=>(e.key,e.val)):=by rw[e2];exact List.mem_map.2 ⟨_,hp,rfl⟩
  obtain⟨e,he,heq⟩:=List.mem_map.1 this
  simp only[Prod.mk.injEq]at heq
  have hin:(ds.map (·.born)).toArray.contains e.born=true:=by
   cases hc:(ds.map (·.born)).toArray.contains e.born with
   |true=>rfl
   |false=>
    have:e∈(leftOf es (ds.map (·.born)).toArray).toList:=by
     unfold leftOf;simp only[Array.toList_filter,List.mem_filter];exact⟨he,by rw[hc];rfl⟩
    rw[Array.size_eq_length_toList,List.length_eq_zero_iff]at h0
    rw[h0]at this;cases this
  simp only[List.contains_toArray,List.contains_iff_mem,List.mem_map]at hin
  obtain⟨d',hd,hb⟩:=hin
  have hde:d'=e:=by
   exact born_inj e3 (e6 _ hd) he hb
  subst hde
  have:d'.key∈pre.map v32:=by rw[←e7];exact List.mem_map.2 ⟨_,hd,rfl⟩
  rw[heq.1]at this
  obtain⟨k',hk',hkk⟩:=List.mem_map.1 this
  rw[zhh hkk]at hk';exact hk'
 ·have hel:e∈es.toList∧(ds.map (·.born)).toArray.contains e.born=false:=by
   unfold leftOf at he
   simp only[Array.toList_filter,List.mem_filter]at he
   exact⟨he.1,by simpa using he.2⟩
  obtain⟨k,v,hkv,hk,hv⟩:=hmem e hel.1
  have hlt:r<w1.heap.size:=by
   have:=(Array.getElem?_eq_some_iff.1 e5).1
   rcases hw1 with rfl|rfl<;>exact this
  have hrm:r≠m:=fun e=>by rw[e,e1]at e5;cases e5
  have hk1:Keep (fun b=>b=r) w w1:=by rcases hw1 with rfl|rfl<;>first|exact Keep.refl _ _|exact Keep.drew _ _
  have hput:ChangeMaps.setBlock w1 r (.mapIter (some m) clk ((ds.map (·.born)).toArray.push e.born) clk)=w1.putObj r (.mapIter (some m) clk ((ds.map (·.born)).toArray.push e.born) clk):=rfl
  rw[hput]at hrun
  show opR P K _
  rw[hk,hv]at hrun
  refine zan (s:=Instr.next (ρ x) false ty) (by rw[hx];exact hrun) (h2 k v _ hkv ?_ ⟨es,clk,ds++ [e],?_,e2,e3,e4,?_,?_,?_⟩ (hk1.trans (zaN rfl)) ?_)
  ·intro hkp
   have:v32 k∈ds.map (·.key):=by rw[e7];exact List.mem_map.2 ⟨_,hkp,rfl⟩
   obtain⟨d',hd,hdk⟩:=List.mem_map.1 this
   have hde:d'=e:=entry_eq_of_key hap (e6 _ hd) hel.1 (by rw[hdk,hk])
   subst hde
   have:=hel.2
   simp only[List.contains_toArray]at this
   have h3:(ds.map (·.born)).contains d'.born=true:=by rw[List.contains_iff_mem];exact List.mem_map.2 ⟨_,hd,rfl⟩
   rw[h3]at this;cases this
  ·refine(World.putObj_heap_other (fun e=>hrm e.symm)).trans ?_
   rcases hw1 with rfl|rfl<;>exact e1
  ·rw[World.putObj_heap_same hlt];simp
  ·intro d' hd
   rcases List.mem_append.1 hd with hd|hd
   ·exact e6 _ hd
   ·rw[List.mem_singleton.1 hd];exact hel.1
  ·rw[List.map_append,e7,List.map_append];simp[hk]
  ·rcases hw1 with rfl|rfl<;>simp
theorem op_entryV{x:Operand}{r m:Nat}{l:List (Int×Value)}{pre:List Int}{k:Int}(hx:ρ x= .pointer (some ⟨r,0,Option.none⟩))(hit:MapIt w r m l (pre++ [k]))
  (h:∀v,(k,v)∈l→K (.tuple #[v32 k,v]) w):
  opW P ⟨d,.entry x,ty,ps,af,g⟩ ρ w K:=by
 obtain⟨es,clk,ds,e1,e2,e3,e4,e5,e6,e7⟩:=hit
 rcases List.eq_nil_or_concat ds with rfl| ⟨ds',e,rfl⟩
 ·simp at e7
 ·rw[List.concat_eq_append,List.map_append,List.map_append]at e7
  have e7':=List.append_inj' e7 rfl
  have hk:e.key=v32 k:=by simpa using e7'.2
  have hmem:e∈es.toList:=e6 _ (by simp)
  have hl:(k,e.val)∈l:=by
   have h1:(e.key,e.val)∈es.toList.map (fun e=>(e.key,e.val)):=List.mem_map.2 ⟨e,hmem,rfl⟩
   rw[e2]at h1
   obtain⟨q,hq,hqe⟩:=List.mem_map.1 h1
   rw[hk]at hqe
   have h2:v32 q.1=v32 k:=congrArg Prod.fst hqe
   have h3:q.2=e.val:=congrArg Prod.snd hqe
   have h4:q.1=k:=by simpa [v32] using h2
   rw[←h4,←h3];exact hq
  have hrun:=run_entry_at (P:=P) w r m clk (ds'.map (·.born)).toArray es clk e (by rw[e5];simp) e1 hmem e3
  rw[hk]at hrun
  show opR P K _
  exact zan (s:=Instr.entry (ρ x)) (by rw[hx];exact hrun) (h _ hl)
end
end Go.Proofs.YtanmnkbccfcagaaGreatDoor.M32
namespace Go.Proofs.YtanmnkbccfcagaaGreatDoor
open Go
def cnt(t:Int)(ts:List Int):Nat:=ts.count t
def zbw(ts:List Int)(b u:Int):Bool:=decide (cnt b ts<cnt u ts)|| (decide (cnt u ts=cnt b ts) && decide (u<b))
def zck:List Int→Int
 | []=>0
 |t::r=>r.foldl (fun b u=>if zbw (t::r) b u then u else b) t
def CntAt(ts:List Int)(l:List (Int×Value)):Prop:=(l.map (·.1)).Nodup∧∀t,l.lookup t=if t∈ts then some (vi (cnt t ts)) else Option.none
theorem zdp(t u:Int)(ts:List Int):cnt t (ts++ [u])=cnt t ts+if u=t then 1 else 0:=by
 unfold cnt
 rw[List.count_append,List.count_singleton]
 simp
theorem zbQ{t:Int}{v:Value}:∀{l:List (Int×Value)},(l.map (·.1)).Nodup→(l.lookup t=some v↔(t,v)∈l)
 | [],_=>by simp
 | (k,u)::l,h=>by
  rw[List.map_cons,List.nodup_cons]at h
  have ih:=zbQ (t:=t) (v:=v) h.2
  rw[List.lookup_cons]
  by_cases e:t=k
  ·subst e
   have:¬(t,v)∈l:=fun hm=>h.1 (List.mem_map.2 ⟨_,hm,rfl⟩)
   simp[this,eq_comm]
  ·have e1:(t==k)=false:=by simpa using e
   rw[e1]
   simp[ih,e]
theorem zeT(key:Int)(v:Value):∀l:List (Int×Value),(M32.setK key v l).map (·.1)=l.map (·.1)
 | []=>rfl
 |p::l=>by
  unfold M32.setK
  split
  ·rfl
  ·simp[zeT key v l]
theorem zdz{key:Int}{v:Value}(t:Int):∀{l:List (Int×Value)},key∈l.map (·.1)→(M32.setK key v l).lookup t=if t=key then some v else l.lookup t
 | [],h=>by simp at h
 | (k,u)::l,h=>by
  unfold M32.setK
  by_cases e:key=k
  ·subst e
   rw[if_pos (by simp)]
   simp only[List.lookup_cons]
   by_cases e2:t=key
   ·subst e2;simp
   ·have e3:(t==key)=false:=by simpa using e2
    rw[e3,if_neg e2]
  ·rw[if_neg (by simpa using e)]
   simp only[List.lookup_cons]
   have hk:key∈l.map (·.1):=by simpa [e] using h
   by_cases e2:t=k
   ·subst e2
    have:¬t=key:=fun h=>e h.symm
    simp[this]
   ·have e3:(t==k)=false:=by simpa using e2
    rw[e3]
    exact zdz t hk
theorem zbP{t:Int}{v:Value}:∀{l:List (Int×Value)},l.lookup t=some v→t∈l.map (·.1)
 | [],h=>by simp at h
 | (k,u)::l,h=>by
  rw[List.lookup_cons]at h
  by_cases e:t=k
  ·subst e;simp
  ·have e1:(t==k)=false:=by simpa using e
   rw[e1]at h
   exact List.mem_cons_of_mem _ (zbP h)
theorem CntAt.new{ts:List Int}{l:List (Int×Value)}(h:CntAt ts l){t:Int}(ht:t∉ts):CntAt (ts++ [t]) (l++ [(t,vi 1)]):=by
 obtain⟨hn,hl⟩:=h
 have hno:l.lookup t=Option.none:=by rw[hl,if_neg ht]
 have htl:t∉l.map (·.1):=fun hm=>by
  obtain⟨p,hp,rfl⟩:=List.mem_map.1 hm
  have:=(zbQ (t:=p.1) (v:=p.2) hn).2 hp
  rw[hno]at this;cases this
 refine⟨?_,fun u=>?_⟩
 ·rw[List.map_append,List.nodup_append]
  exact⟨hn,by simp,fun a ha b hb=>by simp at hb;subst hb;rintro rfl;exact htl ha⟩
 ·rw[List.lookup_append,hl,List.lookup_cons]
  by_cases hu:u∈ts
  ·have e:¬t=u:=fun h=>ht (h▸hu)
   simp[hu,zdp,e]
  ·by_cases e:u=t
   ·subst e
    have:cnt u ts=0:=by unfold cnt;exact List.count_eq_zero.2 hu
    simp[hu,zdp,this]
   ·have e1:(u==t)=false:=by simpa using e
    simp[hu,e1,e]
theorem CntAt.more{ts:List Int}{l:List (Int×Value)}(h:CntAt ts l){t:Int}(ht:t∈ts):CntAt (ts++ [t]) (M32.setK t (vi (cnt t ts+1)) l):=by
 obtain⟨hn,hl⟩:=h
 have htl:t∈l.map (·.1):=zbP (v:=vi (cnt t ts)) (by rw[hl,if_pos ht])
 refine⟨by rw[zeT];exact hn,fun u=>?_⟩
 rw[zdz u htl,hl]
 by_cases e:u=t
 ·subst e;simp[zdp]
 ·have e2:¬t=u:=fun h=>e h.symm
  simp[e,zdp,e2]
theorem CntAt.keys{ts:List Int}{l:List (Int×Value)}(h:CntAt ts l)(t:Int):t∈l.map (·.1)↔t∈ts:=by
 constructor
 ·intro hm
  obtain⟨p,hp,rfl⟩:=List.mem_map.1 hm
  have h2:=(zbQ (t:=p.1) (v:=p.2) h.1).2 hp
  rw[h.2]at h2
  by_cases e:p.1∈ts
  ·exact e
  ·rw[if_neg e]at h2;cases h2
 ·intro hm
  exact zbP (v:=vi (cnt t ts)) (by rw[h.2,if_pos hm])
theorem CntAt.val{ts:List Int}{l:List (Int×Value)}(h:CntAt ts l){t:Int}{v:Value}(hm:(t,v)∈l):t∈ts∧v=vi (cnt t ts):=by
 have h2:=(zbQ h.1).2 hm
 rw[h.2]at h2
 by_cases e:t∈ts
 ·rw[if_pos e]at h2;cases h2;exact⟨e,rfl⟩
 ·rw[if_neg e]at h2;cases h2
def BestOf(ts pre:List Int)(b:Int)(n:Nat):Prop:=(pre=[]∧b=0∧n=0)∨(b∈pre∧n=cnt b ts∧0<n∧∀t∈pre,zbw ts b t=false)
theorem zek{ts:List Int}{b u:Int}:zbw ts b u=true↔cnt b ts<cnt u ts∨(cnt u ts=cnt b ts∧u<b):=by
 unfold zbw;simp
theorem zaJ{ts:List Int}{b u:Int}:zbw ts b u=false↔¬(cnt b ts<cnt u ts∨(cnt u ts=cnt b ts∧u<b)):=by
 rw[←zek];simp
theorem BestOf.take{ts pre:List Int}{b t:Int}{n:Nat}(h:BestOf ts pre b n)(ht:t∈ts)(hb:n<cnt t ts∨(cnt t ts=n∧t<b)):BestOf ts (pre++ [t]) t (cnt t ts):=by
 have h0:0<cnt t ts:=List.count_pos_iff.2 ht
 refine .inr ⟨by simp,rfl,h0,fun u hu=>?_⟩
 rw[zaJ]
 rcases List.mem_append.1 hu with hu|hu
 ·rcases h with ⟨rfl,_⟩| ⟨_,hn,_,hal⟩
  ·cases hu
  ·have:=zaJ.1 (hal u hu)
   omega
 ·rw[List.mem_singleton.1 hu];omega
theorem BestOf.skip{ts pre:List Int}{b t:Int}{n:Nat}(h:BestOf ts pre b n)(ht:t∈ts)(hb:¬(n<cnt t ts∨(cnt t ts=n∧t<b))):BestOf ts (pre++ [t]) b n:=by
 have h0:0<cnt t ts:=List.count_pos_iff.2 ht
 rcases h with ⟨_,_,rfl⟩| ⟨hbp,hn,hp,hal⟩
 ·omega
 ·refine .inr ⟨List.mem_append_left _ hbp,hn,hp,fun u hu=>?_⟩
  rcases List.mem_append.1 hu with hu|hu
  ·exact hal u hu
  ·rw[List.mem_singleton.1 hu,zaJ];omega
theorem zb5(ts:List Int):∀(r pre:List Int) (b:Int),b∈pre→(∀t∈pre,zbw ts b t=false)→
  r.foldl (fun b u=>if zbw ts b u then u else b) b∈pre++r∧∀t∈pre++r,zbw ts (r.foldl (fun b u=>if zbw ts b u then u else b) b) t=false
 | [],pre,b,h1,h2=>by simpa using ⟨h1,h2⟩
 |u::r,pre,b,h1,h2=>by
  rw[List.foldl_cons]
  by_cases hb:zbw ts b u=true
  ·rw[if_pos hb]
   have:=zb5 ts r (pre++ [u]) u (by simp) (fun t ht=>by
    rw[zaJ]
    rw[zek]at hb
    rcases List.mem_append.1 ht with ht|ht
    ·have:=zaJ.1 (h2 t ht);omega
    ·rw[List.mem_singleton.1 ht];omega)
   simpa using this
  ·rw[if_neg hb]
   have:=zb5 ts r (pre++ [u]) b (by simp[h1]) (fun t ht=>by
    rcases List.mem_append.1 ht with ht|ht
    ·exact h2 t ht
    ·rw[List.mem_singleton.1 ht];simpa using hb)
   simpa using this
theorem BestOf.usual{ts pre:List Int}{b:Int}{n:Nat}(h:BestOf ts pre b n)(hp:∀t,t∈ts→t∈pre)(hp2:∀t∈pre,t∈ts):b=zck ts:=by
 cases ts with
 |nil=>
  rcases h with ⟨_,rfl,_⟩| ⟨hb,_⟩
  ·rfl
  ·have:=hp2 b hb;cases this
 |cons a r=>
  have:=zb5 (a::r) r [a] a (by simp) (fun t ht=>by rw[List.mem_singleton.1 ht,zaJ];omega)
  obtain⟨g1,g2⟩:=this
  have e:zck (a::r)=r.foldl (fun b u=>if zbw (a::r) b u then u else b) a:=rfl
  rw[←e]at g1 g2
  rcases h with ⟨rfl,_⟩| ⟨hb,hn,_,hal⟩
  ·have:=hp a (by simp);cases this
  ·have h1:=zaJ.1 (hal _ (hp _ g1))
   have h2:=zaJ.1 (g2 b (hp2 b hb))
   omega
theorem zhi{ts:List Int}(h:ts≠ []):zck ts∈ts:=by
 cases ts with
 |nil=>exact absurd rfl h
 |cons a r=>exact(zb5 (a::r) r [a] a (by simp) (fun t ht=>by rw[List.mem_singleton.1 ht,zaJ];omega)).1
set_option maxRecDepth 10000
theorem zhj{α:Type}[DecidableEq α]:∀{l m:List α},l.Nodup→(∀a∈l,a∈m)→l.length≤m.length
 | [],_,_,_=>Nat.zero_le _
 |a::l,m,h,hs=>by
  have h1:=List.nodup_cons.1 h
  have ha:=hs a (List.mem_cons_self ..)
  have:=zhj (l:=l) (m:=m.erase a) h1.2 (fun b hb=>(List.mem_erase_of_ne (fun (e:b=a)=>h1.1 (e▸hb))).2 (hs b (List.mem_cons_of_mem _ hb)))
  rw[List.length_erase_of_mem ha]at this
  have:=List.length_pos_of_mem ha
  simp;omega
theorem usual_ok{w:World}{v:Value}{R:List RecL}(hR:Rows 7 (RecAt w) w v R)(hl:R.length≤100000)(ht:∀r∈R,0≤r.ttl∧r.ttl≤4294967295):Fn Tryz.prog 55 #[v] w (fun u w'=>u=v32 (zck (R.map RecL.ttl))∧Ext w w'):=by
 obtain⟨a,c,rfl,hc,hg⟩:=hR.open
 refine enter Tryz.func55 Tryz.ntmps55 rfl rfl ?_
 refine go trivial ?_
 have hm0:=M32.new_map w
 have hE0:Ext w (w.alloc (.map #[] 0)):=Ext.alloc _ _
 have hs0:(w.alloc (.map #[] 0)).heap.size=w.heap.size+1:=zat _ _
 refine zc6 R.length (fun i σ v=>(σ 3= .map (some w.heap.size)∧σ 11= .slice a R.length c∧σ 12=vi R.length∧σ 13=vi i)∧(∃l,M32.MapAt v w.heap.size l∧CntAt ((R.take i).map RecL.ttl) l)∧Ext w v∧w.heap.size+1≤v.heap.size) ?_ ?_ ?_
 ·exact⟨⟨vr0,vr0,vr0,vr0⟩,⟨[],hm0,by simp,by simp⟩,hE0,by omega⟩
 ·rintro i σ v hi p ⟨⟨s3,s11,s12,s13⟩,⟨l,hM,hC⟩,hE,hsv⟩
  obtain⟨cs,g0,hcs⟩:=hg i hi
  have g:=zai hE g0
  obtain⟨r,hr⟩:∃r,R[i]=r:=⟨_,rfl⟩
  rw[hr]at hcs
  have hrt:=ht r (hr▸List.getElem_mem hi)
  obtain⟨xa,rfl⟩:=Option.isSome_iff_exists.1 (zaR g)
  obtain⟨xi,hxi⟩:∃xi,adr (some xa) (i*7)=some xi:=⟨_,rfl⟩
  rw[hxi]at g
  have hi0:(0:Int)≤(i:Int):=by omega
  have hi1:(i:Int)<(R.length:Int):=by omega
  have hi2:(i:Int)+1=((i+1:Nat):Int):=by push_cast;rfl
  have hc7:=hcs.len
  refine go (an5 s3 s11 s12 s13 p) ?_
  refine rq ?_;intro gd K hgd hK
  try simp (disch:=first|omega|assumption|rfl) only[go_sem,s11,s13,hi0,hi1,hxi,g]
  refine zd8 (P:=Tryz.prog) (l:=cs) (by rw[hc7];rfl) hcs.ones (by rw[hc7];rfl) rfl ?_
  intro v1 hEv1 hsv1 hBv
  try simp only[go_sem]
  refine hK _ _ ?_;clear hK hgd;clear K;try clear gd
  obtain⟨ow,ds,hce,how,_⟩:=hcs.ex
  have o1:zaf v1 (some ⟨v.heap.size,1,Option.none⟩)=some (v32 r.ttl):=zbF (l:=cs) (j:=1) hBv (by rw[hce];rfl)
  have hM1:M32.MapAt v1 w.heap.size l:=hM.block (hEv1.block _ (by omega) (fun h=>h))
  have htk:(R.take (i+1)).map RecL.ttl=(R.take i).map RecL.ttl++ [r.ttl]:=by rw[zag hi,hr,List.map_append];rfl
  have hcl:cnt r.ttl ((R.take i).map RecL.ttl)≤100000:=by
   refine Nat.le_trans List.count_le_length ?_
   rw[List.length_map,List.length_take];omega
  obtain⟨k,hk⟩:∃k,cnt r.ttl ((R.take i).map RecL.ttl)=k:=⟨_,rfl⟩
  rw[hk]at hcl
  have hk2:(k:Int)+1=((k+1:Nat):Int):=by push_cast;rfl
  have hE1:=hE.trans hEv1
  refine go trivial ?_
  by_cases hin:r.ttl∈(R.take i).map RecL.ttl
  ·have hlk:l.lookup r.ttl=some (vi k):=by rw[hC.2,if_pos hin,hk]
   refine rq ?_;intro gd K hgd hK
   try simp (disch:=first|omega|assumption|rfl) only[go_sem,s3,o1]
   refine M32.op_lk32 (z:=vi 0) rfl rfl rfl rfl ((vr1 s3)) (vr0) hM1 ?_
   rw[hlk,Option.getD_some]
   try simp (disch:=first|omega|assumption|rfl) only[go_sem,hk2]
   refine M32.op_mapTurn rfl rfl ((vr1 s3)) (vr0) (vr0) hM1 hlk ?_
   intro z hMz hkz hsz
   try simp only[go_sem]
   refine hK _ _ ?_;clear hK hgd;clear K;try clear gd
   refine go (an5 s3 s11 s12 s13 hi2) ?_
   refine⟨rfl,⟨(vq1 s3),(vq1 s11),(vq1 s12),(vq1 hi2)⟩,⟨_,hMz,?_⟩,Keep.to_ext hE1 rfl (fun b hb=>by omega) hkz,by omega⟩
   rw[htk,←hk2,←hk]
   exact hC.more hin
  ·have hlk:l.lookup r.ttl=Option.none:=by rw[hC.2,if_neg hin]
   refine rq ?_;intro gd K hgd hK
   try simp (disch:=first|omega|assumption|rfl) only[go_sem,s3,o1]
   refine M32.op_lk32 (z:=vi 0) rfl rfl rfl rfl ((vr1 s3)) (vr0) hM1 ?_
   rw[hlk,Option.getD_none]
   try simp only[go_sem]
   refine M32.op_mapUpdate (v:=vi 1) rfl rfl ((vr1 s3)) (vr0) (vr0) hM1 hlk ?_
   intro z hMz hkz hsz
   try simp only[go_sem]
   refine hK _ _ ?_;clear hK hgd;clear K;try clear gd
   refine go (an5 s3 s11 s12 s13 hi2) ?_
   refine⟨rfl,⟨(vq1 s3),(vq1 s11),(vq1 s12),(vq1 hi2)⟩,⟨_,hMz,?_⟩,Keep.to_ext hE1 rfl (fun b hb=>by omega) hkz,by omega⟩
   rw[htk]
   exact hC.new hin
 ·rintro σ v p ⟨⟨s3,s11,s12,s13⟩,⟨l,hM,hC⟩,hE,hsv⟩
  rw[List.take_length]at hC
  obtain⟨ts,hts⟩:∃ts,R.map RecL.ttl=ts:=⟨_,rfl⟩
  rw[hts]at hC ⊢
  have htl:ts.length≤100000:=by rw[←hts,List.length_map];exact hl
  have htb:∀t∈ts,0≤t∧t≤4294967295:=fun t hm=>by
   rw[←hts]at hm
   obtain⟨r,hr,rfl⟩:=List.mem_map.1 hm
   exact ht r hr
  refine go (an5 s3 s11 s12 s13 p) ?_
  refine rq ?_;intro gd K hgd hK
  try simp (disch:=first|omega|assumption|rfl) only[go_sem,s3]
  refine M32.op_range rfl ((vr1 s3)) hM ?_
  intro W1 hit1 hE1 hs1
  try simp only[go_sem]
  refine hK _ _ ?_;clear hK hgd;clear K;try clear gd
  refine go trivial ?_
  refine zas (fun k σ ds x=>ds=[]∧(∃(best:Int) (n:Nat),σ 24= .pointer (some ⟨v.heap.size,0,Option.none⟩)∧σ 6=v32 best∧σ 7=vi n∧∃pre,M32.MapIt x v.heap.size w.heap.size l pre∧BestOf ts pre best n∧Ext w x∧v.heap.size+1≤x.heap.size∧
   pre.Nodup∧(∀j∈pre,j∈l.map (·.1))∧k+pre.length=(l.map (·.1)).length)) (l.map (·.1)).length ?_ ?_
  ·exact⟨rfl,0,0,vr0,vr0,vr0,[],hit1,.inl ⟨rfl,rfl,rfl⟩,hE.trans hE1,by omega,by simp,by simp,by simp⟩
  rintro k σ ds x ⟨rfl,best,n,s24,s6,s7,pre,hit,hB,hEx,hsx,hnd,hsub,hlen⟩
  refine go (an3 s24 s6 s7) ?_
  refine rq ?_;intro gd K hgd hK
  try simp (disch:=first|omega|assumption|rfl) only[go_sem,s24]
  refine M32.op_next ((vr1 s24)) hit hC.1 ?_ ?_
  ·intro hall
   try simp only[go_sem]
   refine hK _ _ ?_;clear hK hgd;clear K;try clear gd
   refine go trivial ?_
   refine rt0 Tryz.ntmps55 ?_
   refine⟨?_,hEx⟩
   rw[s6,hB.usual (fun t ht=>hall t ((hC.keys t).2 ht)) (fun t ht=>(hC.keys t).1 (hsub t ht))]
  ·intro key u w2 hkv hnk hit2 hk2 hs2
   have hkm:key∈l.map (·.1):=List.mem_map.2 ⟨_,hkv,rfl⟩
   obtain⟨hkt,rfl⟩:=hC.val hkv
   obtain⟨m,hm⟩:∃m,cnt key ts=m:=⟨_,rfl⟩
   have hml:m≤100000:=by rw[←hm];exact Nat.le_trans List.count_le_length htl
   have hkb:=htb key hkt
   have hE2:Ext w w2:=Keep.to_ext hEx rfl (fun b hb=>by omega) hk2
   try simp only[go_sem]
   refine hK _ _ ?_;clear hK hgd;clear K;try clear gd
   refine go trivial ?_
   refine rq ?_;intro gd K hgd hK
   try simp (disch:=first|omega|assumption|rfl) only[go_sem,s24]
   refine M32.op_entryV ((vr1 s24)) hit2 (fun u' hu'=>?_)
   obtain⟨_,rfl⟩:=hC.val hu'
   rw[hm]
   try simp only[go_sem]
   refine hK _ _ ?_;clear hK hgd;clear K;try clear gd
   have hnd':(pre++ [key]).Nodup:=by
    rw[List.nodup_append]
    exact⟨hnd,by simp,fun a ha b hb=>by simp at hb;subst hb;rintro rfl;exact hnk ha⟩
   have hsub':∀j∈pre++ [key],j∈l.map (·.1):=fun j hj=>by
    rcases List.mem_append.1 hj with h|h
    ·exact hsub j h
    ·rw[List.mem_singleton.1 h];exact hkm
   have hlt:(pre++ [key]).length≤(l.map (·.1)).length:=zhj hnd' hsub'
   refine go trivial ?_
   refine zaA (Q:=fun e σ' ds' v'=>e= .normal∧ds'=[]∧v'=w2∧σ' 24= .pointer (some ⟨v.heap.size,0,Option.none⟩)∧σ' 6=v32 best∧σ' 7=vi n∧σ' 8=v32 key∧σ' 9=vi m∧σ' 42= .bool (decide (n<m∨(m=n∧key<best)))) ?_ ?_
   ·by_cases c1:(n:Int)<(m:Int)
    ·refine rgg [(3,33),(7,37)] (an4 s24 s6 s7 (decide_eq_true c1)) ?_
     refine⟨rfl,rfl,rfl,(vq1 s24),(vq1 s6),(vq1 s7),vr0,vr0,?_⟩
     rw[show decide (n<m∨(m=n∧key<best))=true from decide_eq_true (.inl (by omega))]
     first| (simp only[go_sem];done)| (simp only[go_sem];rfl)
    ·by_cases c2:(m:Int)=(n:Int)
     ·obtain⟨t,ht3⟩:∃t,decide (key<best)=t:=⟨_,rfl⟩
      refine rgg [(3,33),(7,37)] (an6 s24 s6 s7 (decide_eq_false c1) (decide_eq_true c2) ht3) ?_
      refine⟨rfl,rfl,rfl,(vq1 s24),(vq1 s6),(vq1 s7),vr0,vr0,?_⟩
      rw[show decide (n<m∨(m=n∧key<best))=t from by rw[←ht3];exact decide_eq_decide.2 ⟨fun h=>by omega,fun h=> .inr ⟨by omega,h⟩⟩]
      first| (simp only[go_sem];done)| (simp only[go_sem];rfl)
     ·refine rgg [(3,33),(7,37)] (an5 s24 s6 s7 (decide_eq_false c1) (decide_eq_false c2)) ?_
      refine⟨rfl,rfl,rfl,(vq1 s24),(vq1 s6),(vq1 s7),vr0,vr0,?_⟩
      rw[show decide (n<m∨(m=n∧key<best))=false from decide_eq_false (by omega)]
      first| (simp only[go_sem];done)| (simp only[go_sem];rfl)
   rintro _ σ1 _ z ⟨rfl,rfl,hz,g24,g6,g7,g8,g9,g42⟩
   subst hz
   by_cases hb:n<m∨(m=n∧key<best)
   ·rw[decide_eq_true hb]at g42
    refine go (an6 g24 g6 g7 g8 g9 g42) ?_
    refine⟨k - 1,by simp at hlt hlen;omega,rfl,key,m,(vq1 g24),(vq1 g8),(vq1 g9),pre++ [key],hit2,?_,hE2,by omega,hnd',hsub',by simp at hlt hlen ⊢;omega⟩
    have:=hB.take hkt (by rw[hm];exact hb)
    rwa [hm]at this
   ·rw[decide_eq_false hb]at g42
    refine go (an6 g24 g6 g7 g8 g9 g42) ?_
    refine⟨k - 1,by simp at hlt hlen;omega,rfl,best,n,(vq1 g24),(vq1 g6),(vq1 g7),pre++ [key],hit2,hB.skip hkt (by rw[hm];exact hb),hE2,by omega,hnd',hsub',by simp at hlt hlen ⊢;omega⟩
section
variable {P : Program} {d : Option Tmp} {ty : TypeId} {ps : String} {af : Array Edge} {g : Option (Nat × Bool)} {ρ : Operand → Value} {w : World} {K : Value → World → Prop}
theorem op_appS2{B:Nat}{s x:Operand}{t tu e:TypeId}{inf:TypeInfo}{v:Value}{l:List Value}{bs:List UInt8}(hown:Own B w e v l)(ht:tyU P t=some (.slice e))(hu:tyU P tu=some .string)(hi:P.info? e=some inf)(hz:inf.zero=some (.int .u8 0))
  (hsize:inf.size=1) (hby:inf.bytes=1) (hv:ρ s=v) (hx:ρ x=vs bs) (hlen:l.length+bs.length≤100000000000) (hB:B≤w.heap.size)
  (h:∀v' w',Own B w' e v' (l++bs.map zaj)→Keep (fun b=>some b=v.ownBlock) w w'→(∀b,some b=v'.ownBlock→some b=v.ownBlock∨w.heap.size≤b)→K v' w'):
  opW P ⟨d,.call ⟨.builtin .append,#[s,x],#[t,tu]⟩,ty,ps,af,g⟩ ρ w K:=by
 have hs:(⟨bs.toArray⟩:ByteArray).size=bs.length:=by simp[ByteArray.size]
 obtain⟨v',w',hr,h2,h3,h4⟩:=Lib.run_append_own_string (P:=P) w B t tu ty e inf (show P.underlying t=_ from ht) (show P.underlying tu=_ from hu) hi hz hsize hby v l.length l hown ⟨bs.toArray⟩ (by rw[hs];simp[maxLen];omega) (by rw[hs];omega) hB
 have hnew:∀b,some b=v'.ownBlock→some b=v.ownBlock∨w.heap.size≤b:=fun b hb=>by
  rcases hown.2 with ⟨rfl,hl0⟩| ⟨g,cap,cur,rfl,hbg,hg,hnc,hcm,hcs,htake⟩
  ·obtain⟨v2,w2,k1,k2,_⟩:=Lib.run_append_own_string (P:=P) w w.heap.size t tu ty e inf (show P.underlying t=_ from ht) (show P.underlying tu=_ from hu) hi hz hsize hby (.slice Option.none 0 0) l.length l ⟨hown.1,.inl ⟨rfl,hl0⟩⟩ ⟨bs.toArray⟩ (by rw[hs];simp[maxLen];omega) (by rw[hs];omega) (Nat.le_refl _)
   rw[k1]at hr
   cases hr
   rcases k2.2 with ⟨rfl,_⟩| ⟨g,cap,cur,rfl,hg,_⟩
   ·cases hb
   ·cases hb;exact .inr hg
  ·by_cases hroom:l.length+(⟨bs.toArray⟩:ByteArray).size≤cap
   ·have k1:=Lib.run_append_room_string (P:=P) w t tu ty e inf (show P.underlying t=_ from ht) (show P.underlying tu=_ from hu) hi hsize g l.length cap cur hg ⟨bs.toArray⟩ hroom (by rw[hs];omega)
    rw[k1]at hr
    cases hr
    exact .inl hb
   ·have holds:∀j u,l[j]? =some u→w.cell? ((⟨g,0,Option.none⟩:Addr).add j)=some u:=hown.cells (g:=g) rfl
    have k1:=Lib.run_append_grow_string (P:=P) w t tu ty e inf (.int .u8 0) (show P.underlying t=_ from ht) (show P.underlying tu=_ from hu) hi hz ⟨g,0,Option.none⟩ l.length cap l (by rw[hsize];simp) holds ⟨bs.toArray⟩ (by omega) (by rw[hs];omega) (by rw[hby];exact growslice_fits (by omega) (by rw[hs];omega))
    rw[k1]at hr
    cases hr
    cases hb
    exact .inr (Nat.le_refl _)
 have hc:Lib.strCells ⟨bs.toArray⟩=bs.map zaj:=by simp[Lib.strCells,zaj]
 rw[hs,hc]at h2
 refine zbp (b:= .append) (r:= .ok v' w') (fun v2 w2 h'=>?_) ⟨v',w',by rw[hv,hx];exact hr⟩
 rw[hv,hx]at h'
 have e1:(Builtin.append_ #[t,tu] ty #[v,.string ⟨bs.toArray⟩]).run P w= .ok v2 w2:=h'
 rw[hr]at e1
 cases e1
 have hl:l.length+bs.length=(l++bs.map zaj).length:=by simp
 rw[hl]at h2
 exact h v' w' h2 (zc0 h3 (zaz _ _ _ _ hr)) hnew
end
def BldU(U:Nat→Prop)(w:World)(b:Nat)(bs:Lab):Prop:=∃p v,(p= .pointer Option.none∨p= .pointer (some ⟨b,0,Option.none⟩))∧w.heap[b]? =some (.cells #[p,v] 106 (0,0))∧Own 0 w 5 v (bs.map zaj)∧∀i,some i=v.ownBlock→U i
theorem Bld.toU{U:Nat→Prop}{B:Nat}{w:World}{b:Nat}{bs:Lab}(h:Bld B w b bs)(hU:∀i,B≤i→i<w.heap.size→U i):BldU U w b bs:=by
 obtain⟨p,v,h1,h2,h3⟩:=h.ex
 exact⟨p,v,h1,h2,h3.mono (Nat.zero_le _),fun i hi=>hU i (h3.ge hi).1 (h3.ge hi).2⟩
theorem BldU.keep{U S:Nat→Prop}{w x:World}{b:Nat}{bs:Lab}(h:BldU U w b bs)(hk:Keep S w x)(hb:¬S b)(hS:∀i,U i→i<w.heap.size→¬S i):BldU U x b bs:=by
 obtain⟨p,v,h1,h2,h3,h4⟩:=h
 exact⟨p,v,h1,(hk.block _ (Array.getElem?_eq_some_iff.1 h2).1 hb).trans h2,h3.keep hk (fun i hi=>hS i (h4 i hi) (h3.ge hi).2),h4⟩
theorem BldU.ext{U:Nat→Prop}{w x:World}{b:Nat}{bs:Lab}(h:BldU U w b bs)(hE:Ext w x):BldU U x b bs:=h.keep hE (fun h=>h) (fun _ _ _ h=>h)
theorem zfk{U:Nat→Prop}{w:World}{b:Nat}{bs s:List UInt8}(h:BldU U w b bs)(hU:∀i,w.heap.size≤i→U i)(hlen:bs.length+s.length≤100000000000):
  Fn Tryz.prog 57 #[.pointer (some ⟨b,0,Option.none⟩),vs s] w (fun _ w'=>BldU U w' b (bs++s)∧Keep (fun i=>i=b∨U i) w w'):=by
 obtain⟨p,v,hp,hb,hown,hUv⟩:=h
 have hne:=zir hown hb
 obtain⟨inf,hi,hz,hsz,hby⟩:=info_parts (P:=Tryz.prog) (e:=5) (z:= .int .u8 0) (size:=1) (bytes:=1) (by kernel_rfl)
 refine enter Tryz.func57 Tryz.ntmps57 rfl rfl ?_
 repeat refine c_r ?_
 refine rg0 ?_
 repeat refine c_r ?_
 refine rq ?_;intro gd K hgd hK
 try simp only[go_sem]
 refine Fn.mono (zbz hp hb) ?_
 rintro _ w1 ⟨hb1,hk1,hs1⟩
 try simp only[go_sem]
 refine hK _ _ ?_;clear hK hgd;clear K;try clear gd
 have hown1:=hown.keep hk1 (fun i hi he=>hne (he▸hi))
 have c1:zaf w1 (some ⟨b,1,Option.none⟩)=some v:=zac hb1 rfl
 repeat refine c_r ?_
 refine rq ?_;intro gd K hgd hK
 try simp (disch:=first|omega|assumption|rfl) only[go_sem,c1,Nat.zero_add]
 refine op_appS2 hown1 (by rfl) (by rfl) hi hz hsz hby (by rfl) (by rfl) (by simpa using hlen) (by omega) ?_
 intro v2 w2 hown2 hk2 hnew
 try simp only[go_sem]
 have hb2:=(hk2.block b (Array.getElem?_eq_some_iff.1 hb1).1 hne).trans hb1
 have hne2:some b≠v2.ownBlock:=fun he=>by
  obtain⟨cur,fr,h1⟩:=zdm hown2 he
  rw[hb2]at h1
  injection h1 with h1
  injection h1 with _ h2
  revert h2;decide
 obtain⟨a2,c2,hv2⟩:=hown2.slice
 refine zen (P:=Tryz.prog) (t:=31) (j:=1) (l:=[.pointer (some ⟨b,0,Option.none⟩),v]) hb2 (by simp) (by rw[hv2];rfl) rfl rfl ?_
 intro w3 hs3 hb3 hk3
 try simp only[go_sem]
 refine hK _ _ ?_;clear hK hgd;clear K;try clear gd
 have hown3:=hown2.keep hk3 (fun i hi he=>hne2 (he▸hi))
 repeat refine c_r ?_
 refine rg0 ?_
 repeat refine c_r ?_
 refine zaB (.inr rfl) Tryz.ntmps57 rfl (zal rfl (zal rfl zay)) ?_
 refine⟨⟨_,v2,.inr rfl,by simpa using hb3,by rw[List.map_append];exact hown3,fun i hi=>?_⟩,?_⟩
 ·rcases hnew i hi with h|h
  ·exact hUv i h
  ·exact hU i (by omega)
 exact((hk1.mono (fun i _ h=> .inl h)).trans (hk2.mono (fun i _ h=> .inr (hUv i h)))).trans (hk3.mono (fun i _ h=> .inl h))
theorem File1_U{U:Nat→Prop}{w:World}{v:Value}{xs:List Lab}{b:Nat}{acc:Lab}(hR:Row w v (xs.map vs))(hx:xs.length≤1000000)(hl:zar xs≤1000000000)(hB:BldU U w b acc)(hU:∀i,w.heap.size≤i→U i)(hacc:acc.length≤50000000000):
  Fn Tryz.prog 56 #[v,.pointer (some ⟨b,0,Option.none⟩)] w (fun _ w'=>BldU U w' b (acc++(zby [32] xs++ [10]))∧Keep (fun i=>i=b∨U i) w w'):=by
 have hj:=za7 [32] xs
 rw[show ([32]:Lab).length=1 from rfl]at hj
 refine enter Tryz.func56 Tryz.ntmps56 rfl rfl ?_
 refine rc trivial (zc7 (sep:=[32]) hR hx (by decide) (by decide) hl) ?_
 rintro _ w1 ⟨rfl,hE1⟩
 have l1:(zby [32] xs).length+([10]:Lab).length≤9223372036854775807:=by simp;omega
 have hs1:=hE1.size
 refine rd l1 (zfk (s:=zby [32] xs++ [10]) (hB.ext hE1) (fun i hi=>hU i (by omega)) (by rw[List.length_append,show([10]:Lab).length=1 from rfl];omega)) ?_
 rintro _ w2 ⟨hB2,hk2⟩
 refine rgo trivial ?_
 exact zaw (by simp) rfl ⟨hB2,(hE1.mono fun _ _ h=>h.elim).trans hk2⟩
theorem String_U{U:Nat→Prop}{w:World}{b:Nat}{bs:List UInt8}(h:BldU U w b bs)(hlen:bs.length≤100000000000):
  Fn Tryz.prog 64 #[.pointer (some ⟨b,0,Option.none⟩)] w (fun v w'=>v=vs bs∧Keep U w w'):=by
 obtain⟨p,v,hp,hb,hown,hU⟩:=h
 rcases hown.2 with ⟨rfl,hl⟩| ⟨g,cap,cur,rfl,_,hg,hn,hcap,hcs,hx⟩
 ·have h0:bs=[]:=by simpa using hl
  subst h0
  refine enter Tryz.func64 Tryz.ntmps64 rfl rfl ?_
  repeat refine c_r ?_
  refine rg0 ?_
  repeat refine c_r ?_
  refine zaK (fun _=>false) [(0,true),(1,true),(2,true),(3,true),(5,true),(6,true),(7,true),(8,true),(9,true),(4,false),(10,false),(11,true)] NoS mixed (by kernel_rfl) ?_;intro gd K x hgd hx hxe hK;have hx0:=zbc hxe;clear hxe
  have c1:zaf x (some ⟨b,1,Option.none⟩)=some (.slice Option.none 0 0):=zac (Ext.at hx0 hb) rfl
  simp (disch:=first|omega|assumption|rfl) only[go_sem,c1,Nat.zero_add]
  refine zaO (u:= .slice Option.none 0 0) (vq0) (Lib.run_unsafeSliceData_nil _ _ _ _ _) ?_
  refine⟨.inr (Keep.refl _ _),?_⟩
  refine zax (u:= .pointer Option.none) (z:=vi 0) (vq0) (vr0) (Lib.run_unsafeString_none (P:=Tryz.prog) _ _ _ _ _) ?_
  refine⟨.inr (Keep.refl _ _),?_⟩
  refine hK _ _ ?_;clear hK hgd;clear K;try clear gd
  repeat refine c_r ?_
  refine zaB (.inr rfl) Tryz.ntmps64 rfl (zal (vr0) zay) ?_
  exact⟨rfl,hx0.mono (fun i _ h=>h.elim)⟩
 by_cases h0:bs=[]
 ·subst h0
  refine enter Tryz.func64 Tryz.ntmps64 rfl rfl ?_
  repeat refine c_r ?_
  refine rg0 ?_
  repeat refine c_r ?_
  refine zaK (fun _=>false) [(0,true),(1,true),(2,true),(3,true),(5,true),(6,true),(7,true),(8,true),(9,true),(4,false),(10,false),(11,true)] NoS mixed (by kernel_rfl) ?_;intro gd K x hgd hx hxe hK;have hx0:=zbc hxe;clear hxe
  have c1:zaf x (some ⟨b,1,Option.none⟩)=some (.slice (some ⟨g,0,Option.none⟩) 0 cap):=zac (Ext.at hx0 hb) rfl
  have hgx:=Ext.at hx0 hg
  simp (disch:=first|omega|assumption|rfl) only[go_sem,c1,Nat.zero_add]
  by_cases hc0:cap=0
  ·subst hc0
   refine zaO (u:= .slice (some ⟨g,0,Option.none⟩) 0 0) (vq0) (Lib.run_unsafeSliceData_zero (P:=Tryz.prog) _ _ _ 5 (by rfl) _ _ _ (by simp only[World.shape?,hgx];rfl)) ?_
   refine⟨.inr (Ext.alloc x _),?_⟩
   refine zax (u:= .pointer (some ⟨x.heap.size,0,Option.none⟩)) (z:=vi 0) (vq0) (vr0) (Lib.run_unsafeString_none (P:=Tryz.prog) _ _ _ _ _) ?_
   refine⟨.inr (Keep.refl _ _),?_⟩
   refine hK _ _ ?_;clear hK hgd;clear K;try clear gd
   repeat refine c_r ?_
   refine zaB (.inr rfl) Tryz.ntmps64 rfl (zal (vr0) zay) ?_
   exact⟨rfl,(hx0.trans (Ext.alloc x _)).mono (fun i _ h=>h.elim)⟩
  ·refine zaO (u:= .slice (some ⟨g,0,Option.none⟩) 0 cap) (vq0) (Lib.run_unsafeSliceData_row _ _ _ _ _ _ hc0) ?_
   refine⟨.inr (Keep.refl _ _),?_⟩
   refine zax (u:= .pointer (some ⟨g,0,Option.none⟩)) (z:=vi 0) (vq0) (vr0) (Lib.run_unsafeString_none (P:=Tryz.prog) _ _ _ _ _) ?_
   refine⟨.inr (Keep.refl _ _),?_⟩
   refine hK _ _ ?_;clear hK hgd;clear K;try clear gd
   repeat refine c_r ?_
   refine zaB (.inr rfl) Tryz.ntmps64 rfl (zal (vr0) zay) ?_
   exact⟨rfl,hx0.mono (fun i _ h=>h.elim)⟩
 simp only[List.length_map,Nat.mul_one]at hn hx hb hcs
 have hlen0:0<bs.length:=List.length_pos_iff.2 h0
 refine enter Tryz.func64 Tryz.ntmps64 rfl rfl ?_
 repeat refine c_r ?_
 refine rg0 ?_
 repeat refine c_r ?_
 have hbg:b≠g:=fun he=>by
  subst he
  rw[hb]at hg
  injection hg with hg
  injection hg with _ h2
  revert h2;decide
 have hc0:cap≠0:=by omega
 refine zaK (fun _=>false) [(0,true),(1,true),(2,true),(3,true),(5,true),(6,true),(7,true),(8,true),(9,true),(4,false),(10,false),(11,true)] ((fun i=>i=g)) mixed (by kernel_rfl) ?_;intro gd K x hgd hx hxe hK;have hx0:=zbc hxe;clear hxe
 have c1:zaf x (some ⟨b,1,Option.none⟩)=some (.slice (some ⟨g,0,Option.none⟩) bs.length cap):=zac (Ext.at hx0 hb) rfl
 have hgx:=Ext.at hx0 hg
 simp (disch:=first|omega|assumption|rfl) only[go_sem,c1,Nat.zero_add]
 refine⟨fun a ha hb=>(by cases ha;exact hbg hb),fun a ha hb=>(by cases ha;exact hbg hb),?_⟩
 refine zaO (u:= .slice (some ⟨g,0,Option.none⟩) bs.length cap) (vq0) (Lib.run_unsafeSliceData_row _ _ _ _ _ _ hc0) ?_
 refine⟨.inr (Keep.refl _ _),?_⟩
 refine zax (u:= .pointer (some ⟨g,0,Option.none⟩)) (z:=vi bs.length) (vq0) (vq0) (Lib.run_unsafeString_row (P:=Tryz.prog) _ _ _ _ 5 (by rfl) (by rfl) g (cap*1) (by simp[World.shape?,hgx,hcs]) bs h0 (by omega) (by omega) ?_) ?_
 ·intro j y hj
  obtain⟨hj1,hj2⟩:=List.getElem?_eq_some_iff.1 hj
  have hcell:=hown.row
  obtain⟨a,c,e,hc,hgt⟩:=hcell.ext hx0
  injection e with e1 e2 e3
  have h2:=hgt j (by simpa using hj1)
  rw[←e1,List.getElem_map,hj2]at h2
  exact h2
 have hfk:Keep (fun i=>i=g) x (x.freeze ⟨g,0,Option.none⟩ bs.length):=zcp x ⟨g,0,Option.none⟩ bs.length
 refine⟨.inr hfk,?_⟩
 refine hK _ _ ?_;clear hK hgd;clear K;try clear gd
 repeat refine c_r ?_
 refine zaB (.inr rfl) Tryz.ntmps64 rfl (zal (vr0) zay) ?_
 exact⟨rfl,(hx0.mono (fun i _ h=>h.elim)).trans (hfk.mono (fun i _ h=>h▸hU g rfl))⟩
theorem own_one{B g:Nat}{w:World}{e:TypeId}{x:Value}(h:Own B w e (.slice (some ⟨g,0,Option.none⟩) 1 1) [x]):w.heap[g]? =some (.cells #[x] e (0,0)):=by
 rcases h.2 with ⟨h1,_⟩| ⟨g',cap,cur,h1,_,hg,_,_,hcs,htake⟩
 ·cases h1
 ·cases h1
  rw[hg]
  have h2:cur.toList.length=1:=by simpa using hcs
  have h3:cur.toList=[x]:=by
   rw[←htake,List.take_of_length_le (by simp[h2])]
  rw[show cur=#[x] from Array.toList_inj.1 (by simpa using h3)]
theorem zhN{B g:Nat}{w:World}{e:TypeId}{x:Value}(hg:w.heap[g]? =some (.cells #[x] e (0,0)))(hB:B≤g):Own B w e (.slice (some ⟨g,0,Option.none⟩) 1 1) [x]:=⟨rfl,.inr ⟨g,1,#[x],rfl,hB,hg,Nat.le_refl _,by decide,rfl,rfl⟩⟩
theorem zfc{β:Type}{cf:RecL→RecL→Int}{jn:RecL→RecL→RecL}{p:β→RecL}{Q:RecL→Prop}(hj:∀x r,Q x→Q r→cf x r=0→Q (jn x r)):∀(l:List β) (acc:List RecL),(∀x∈l,Q (p x))→(∀x∈acc,Q x)→∀x∈zbC cf jn p l acc,Q x
 | [],_,_,h=>h
 |r::l,acc,hl,ha=>zfc hj l _ (fun x hx=>hl x (List.mem_cons_of_mem _ hx)) (zdl (fun x hx h0=>hj x (p r) hx (hl r (List.mem_cons_self ..)) h0) (hl r (List.mem_cons_self ..)) ha)
theorem zg3:∀(l:List RecL),(zba l).length≤l.length:=by
 have h1:∀(r:RecL) (O:List RecL),(putC zau minT r O).length≤O.length+1:=fun r O=>by
  induction O with
  |nil=>simp[putC]
  |cons x O ih=>
   simp only[putC]
   split
   ·simp;omega
   ·split<;>simp
 have h2:∀(l acc:List RecL),(zbC zau minT (fun r=>r) l acc).length≤acc.length+l.length:=fun l=>by
  induction l with
  |nil=>intro acc;simp[zbC]
  |cons r l ih=>
   intro acc
   have:=ih (putC zau minT r acc)
   have:=h1 r acc
   show(zbC zau minT (fun r=>r) l (putC zau minT r acc)).length≤_
   simp only[List.length_cons];omega
 intro l
 have h3:(zba l).length≤([]:List RecL).length+l.length:=h2 l []
 simpa using h3
end Go.Proofs.YtanmnkbccfcagaaGreatDoor
