/-
  Texts of a proof, joined: D4, D6, D7, D8, Y0, K18, M5cd, E0, E1, K22, E2, E3, Y1, E4, M5cs, E5, E6, E7, B4, B5, B6, M5cm, E8, K23, B0, L2, B1, B2, B3, K24, E9, E10, F2, Y4, F3, F4, Y5, F5, E11, E12, E13, F6.
  Conditions: none.
-/
import Derived.Test.YtahbdamijngmmaaGreatJO03
import Derived.Test.YtahbdamijngmmaaGreatJO04
import Derived.Test.YtahbdamijngmmaaGreatJO02
import Derived.Test.YtahbdamijngmmaaGreatJO01
import Derived.Lib.Builder
import Derived.Lib.AppendStr
import Derived.Lib.UnsafeStr
import Derived.Test.YtahbdamijngmmaaGreatProg
import Derived.Shelf.Small.Strs
import Derived.Shelf.Strings.Builder1
import Derived.MapFrom
set_option linter.unusedVariables false
set_option linter.unusedSimpArgs false
set_option linter.defProp false
set_option linter.unnecessarySimpa false
set_option maxHeartbeats 8000000
namespace Go.Proofs.YtahbdamijngmmaaGreat
open Go
set_option maxRecDepth 10000
theorem RecAt.len{w:World}{cs:List Value}{r:RecL}(h:RecAt w cs r):cs.length=7:=by
 obtain⟨ow,ds,rfl,_,⟨nm,nu,tx,rw',rfl,_⟩⟩:=h.ex
 rfl
theorem RecAt.ones{w:World}{cs:List Value}{r:RecL}(h:RecAt w cs r):∀q∈cs,one q=true:=by
 obtain⟨ow,ds,rfl,⟨o1,o2,rfl,_⟩,⟨nm,nu,tx,rw',rfl,⟨_,⟨o3,o4,rfl,_⟩,_⟩,⟨o5,o6,rfl,_⟩,⟨o7,o8,rfl,_⟩,⟨o9,o10,rfl,_⟩⟩⟩:=h.ex
 intro q hq
 simp at hq
 rcases hq with rfl|rfl|rfl|rfl|rfl|rfl|rfl<;>rfl
abbrev RI:=(List Value×RecL)×Nat
def encR(x:RI):List Value:=x.1.1
def zgp(a b:RI):Prop:=a.2<b.2
def ltR(a b:RI):Prop:=zaJ a.1.2 b.1.2<0∨(zaJ a.1.2 b.1.2=0∧a.2<b.2)
def cfR(a b:RI):Int:=zaJ a.1.2 b.1.2
def UR(w:World)(x:RI):Prop:=RecAt w x.1.1 x.1.2∧zcw x.1.2
theorem cmp_R{w0 w:World}(hE0:Ext w0 w):S_rec.Cmp w encR (UR w0) cfR 215 []:=
 ⟨by decide,fun A x y hE hx hy=>zdU A _ _ _ _ (hx.1.ext (hE0.trans hE)) (hy.1.ext (hE0.trans hE)) hx.2 hy.2⟩
theorem older_R:zdp cfR ltR zgp:=by
 refine⟨fun {a b c} h1 h2=>?_,fun {x y} ho h=> .inl h,fun {x y} ho h=>?_⟩
 ·rcases h1 with h1| ⟨h1,g1⟩<;>rcases h2 with h2| ⟨h2,g2⟩
  ·exact .inl (cpr_R.trans h1 h2)
  ·exact .inl (by rw[←cpr_R.eqr h2];exact h1)
  ·exact .inl (by rw[cpr_R.eql h1];exact h2)
  ·exact .inr ⟨by rw[cpr_R.eql h1];exact h2,by omega⟩
 ·have:=cpr_R.neg x.1.2 y.1.2
  have h':¬zaJ y.1.2 x.1.2<0:=h
  by_cases h0:zaJ x.1.2 y.1.2=0
  ·exact .inr ⟨h0,ho⟩
  ·exact .inl (by omega)
def zeroR:List Value:=[.slice Option.none 0 0,v32 0,vi 0,.slice Option.none 0 0,.slice Option.none 0 0,.slice Option.none 0 0,.slice Option.none 0 0]
theorem sd_zero(w:World):SD 7 (w.alloc (.cells #[.slice Option.none 0 0,v32 0,vi 0,.slice Option.none 0 0,.slice Option.none 0 0,.slice Option.none 0 0,.slice Option.none 0 0] 201 (0,0))) w.heap.size 201 1 [zeroR]:=
 ⟨⟨_,[],zam _ _,rfl,rfl⟩,fun x h=>(by rw[List.mem_singleton.1 h];rfl),fun x h v hv=>(by rw[List.mem_singleton.1 h]at hv;simp[zeroR]at hv;rcases hv with rfl|rfl|rfl|rfl<;>rfl)⟩
def zej(O:List RecL)(r:RecL):Bool:=match O.getLast? with
 |some x=>decide (zaJ x r=0)
 |Option.none=>false
theorem zes{α:Type}{cf:α→α→Int}{jn:α→α→α}(hc:Cpr cf){O':List α}{z r:α}(hs:(O'++ [z]).Pairwise (fun a b=>cf a b<0))(hle:¬0<cf z r):
  putC cf jn r (O'++ [z])=if cf z r=0 then O'++ [jn z r] else O'++ [z,r]:=by
 refine zgj (fun y hy=>?_) hle
 have h1:=(List.pairwise_append.1 hs).2.2 y hy z (by simp)
 by_cases h0:cf z r=0
 ·rw[←hc.eqr h0];exact h1
 ·exact hc.trans h1 (by omega)
theorem recs_set{w:World}{LO:List (List Value)}{O':List RecL}{z m:RecL}{X:List Value}{j:Nat}(hj:O'.length=j)(hl:LO.length=j+1)
  (h:∀q (h:q<LO.length) (h':q<(O'++ [z]).length),RecAt w LO[q] (O'++ [z])[q]) (hX:RecAt w X m):
  ∀q (h:q<(LO.set j X).length) (h':q<(O'++ [m]).length),RecAt w (LO.set j X)[q] (O'++ [m])[q]:=by
 intro q h1 h2
 by_cases hq:q=j
 ·subst hq
  have e1:(LO.set q X)[q]=X:=by simp
  have e2:(O'++ [m])[q]=m:=by simp[←hj]
  rw[e1,e2];exact hX
 ·have hq2:q<O'.length:=by simp at h2;omega
  have e1:(LO.set j X)[q]=LO[q]'(by omega):=List.getElem_set_ne (by omega) _
  have e2:(O'++ [m])[q]=O'[q]:=List.getElem_append_left hq2
  have e3:(O'++ [z])[q]'(by simp;omega)=O'[q]:=List.getElem_append_left hq2
  rw[e1,e2,←e3];exact h q (by omega) (by simp;omega)
theorem zjw{w:World}{LO:List (List Value)}{O:List RecL}{m:RecL}{X:List Value}(hl:LO.length=O.length)
  (h:∀q (h:q<LO.length) (h':q<O.length),RecAt w LO[q] O[q]) (hX:RecAt w X m):
  ∀q (h:q<(LO++ [X]).length) (h':q<(O++ [m]).length),RecAt w (LO++ [X])[q] (O++ [m])[q]:=by
 intro q h1 h2
 by_cases hq:q<LO.length
 ·rw[List.getElem_append_left hq,List.getElem_append_left (by omega)];exact h q hq (by omega)
 ·have hq1:q=LO.length:=by simp at h1;omega
  have e1:(LO++ [X])[q]=X:=by simp[hq1]
  have e2:(O++ [m])[q]=m:=by simp[hq1,hl]
  rw[e1,e2];exact hX
theorem few_ok(w0 w:World)(hE0:Ext w0 w){v:Value}{R:List RecL}(hR:Rows 7 (RecAt w0) w v R)(hok:∀r∈R,zcw r)(hlen:R.length≤1000000000):
  Fn Tryz.prog 214 #[v,.func (.func 215) #[] #[],.func (.func 216) #[] #[]] w (fun u w'=>Rows 7 (RecAt w0) w' u (zbB R)∧Ext w w'∧BlkB w.heap.size w' u):=by
 obtain⟨L,hrow,hl,hat⟩:=hR
 have hk:∀x∈L,x.length=7:=fun x hx=>by
  obtain⟨i,hi,rfl⟩:=List.getElem_of_mem hx
  exact(hat i hi (by omega)).len
 have h1:∀x∈L,∀q∈x,one q=true:=fun x hx=>by
  obtain⟨i,hi,rfl⟩:=List.getElem_of_mem hx
  exact(hat i hi (by omega)).ones
 obtain⟨D,hD⟩:∃D:List RI,D=(L.zip R).zipIdx:=⟨_,rfl⟩
 have hDe:D.map encR=L:=by
  rw[hD]
  show(List.zipIdx (L.zip R)).map (Prod.fst∘Prod.fst)=L
  rw[←List.map_map,List.zipIdx_map_fst,List.map_fst_zip (by omega)]
 have hDr:D.map (fun x=>x.1.2)=R:=by
  rw[hD]
  show(List.zipIdx (L.zip R)).map (Prod.snd∘Prod.fst)=R
  rw[←List.map_map,List.zipIdx_map_fst,List.map_snd_zip (by omega)]
 have hDl:D.length=R.length:=by rw[←hDr,List.length_map]
 have hDo:D.Pairwise zgp:=by
  rw[hD,List.pairwise_iff_getElem]
  intro i j hi hj hij
  simp[zgp,hij]
 have hDU:∀x∈D,UR w0 x:=fun x hx=>by
  rw[hD]at hx
  obtain⟨i,hi,rfl⟩:=List.getElem_of_mem hx
  have hi':i<R.length:=by simp at hi;omega
  have hi2:i<L.length:=by omega
  simp only[List.getElem_zipIdx,List.getElem_zip,UR]
  exact⟨hat i hi2 hi',hok _ (List.getElem_mem hi')⟩
 refine enter Tryz.func214 Tryz.ntmps214 rfl rfl ?_
 repeat refine c_r ?_
 refine rg0 ?_
 repeat refine c_r ?_
 refine rq ?_;intro gd K hgd hK
 try simp only[go_sem]
 refine Fn.mono (S_rec.Clone_ok hrow hk h1 (by omega)) ?_
 rintro vs1 w1 ⟨ho1,hE1⟩
 try simp only[go_sem]
 refine hK _ _ ?_;clear hK hgd;clear K;try clear gd
 repeat refine c_r ?_
 refine rq ?_;intro gd K hgd hK
 try simp only[go_sem]
 rw[←hDe]at ho1
 refine Fn.mono (S_rec.SortOwn_ok (w0:=w) (cb:=[]) (cmp_R hE0) older_R (Nat.le_refl _) hDU hDo ho1 (by omega) hE1) ?_
 rintro _ w2 ⟨Z,hp,hs,ho2,hK2⟩
 try simp only[go_sem]
 refine hK _ _ ?_;clear hK hgd;clear K;try clear gd
 repeat refine c_r ?_
 have hE2:Ext w w2:=Keep.to_ext hE1 rfl (fun i hi=>by have:=(ho1.ge hi).1;omega) hK2
 have hE02:=hE0.trans hE2
 have hUZ:∀x∈Z,UR w0 x:=fun x hx=>hDU x (hp.mem_iff.1 hx)
 have hZl:=hp.length_eq
 obtain⟨aS,cS,rfl,hcs,hget⟩:=ho2.rowK
 refine rg0 ?_
 repeat refine c_r ?_
 refine rg0 ?_
 repeat refine c_r ?_
 rw[List.length_map]at hcs
 simp only[List.length_map]
 refine zai (fun m σ ds v=>ds=[]∧∃(i:Nat) (vO:Value) (LO:List (List Value)) (O:List RecL),i+m=Z.length∧σ 18=vi i∧σ 17=vi Z.length∧σ 16= .slice aS Z.length cS∧σ 7=vO∧σ 1= .func (.func 215) #[] #[]∧σ 2= .func (.func 216) #[] #[]∧
  OwnK 7 w2.heap.size v 201 vO LO∧LO.length=O.length∧(∀j (h:j<LO.length) (h':j<O.length),RecAt w0 LO[j] O[j])∧(∀r∈O,zcw r)∧O.length≤i∧O=zcb zaJ minT (fun x:RI=>x.1.2) (Z.take i) []∧Ext w2 v∧O.Pairwise (fun a b=>zaJ a b<0)∧(∀o∈O,∀z∈Z.drop i,¬0<zaJ o z.1.2)) Z.length ?_ ?_
 ·refine⟨rfl,0,.slice Option.none 0 0,[],[],by omega,vr0,vq0,vq0,vq0,vq0,vq0,OwnK.nil _ _ _ _,rfl,fun j h=>absurd h (by simp),fun r h=>absurd h (by simp),by simp,rfl,Keep.refl _ _,List.Pairwise.nil,fun o h=>absurd h (by simp)⟩
 rintro m σ ds v ⟨rfl,i,vO,LO,O,him,h18,h17,h16,h7,hs1,hs2,hO,hOl,hOat,hOok,hOi,hOf,hE3,hOs,hOle⟩
 repeat refine c_r ?_
 refine rg2 h18 h17 ?_
 repeat refine c_r ?_
 refine wc0 ?_ ?_
 ·intro hlt
  simp only[decide_eq_true_eq]at hlt
  have hiZ:i<Z.length:=by omega
  have hgi:=zaf hE3 (hget i (by simpa using hiZ))
  have hi0:(0:Int)≤(i:Int):=by omega
  have hi1:(i:Int)<(Z.length:Int):=by omega
  obtain⟨xS,rfl⟩:=Option.isSome_iff_exists.1 (zan hgi)
  obtain⟨r,hr⟩:∃r,Z[i]=r:=⟨_,rfl⟩
  have hUr:UR w0 r:=hr▸hUZ _ (List.getElem_mem hiZ)
  have hgr:zaw v (adr (some xS) (i*7)) 7=some r.1.1:=by rw[hgi,List.getElem_map,hr];rfl
  repeat refine c_r ?_
  refine rq ?_;intro gd K hgd hK
  try simp (disch:=first|omega|assumption|rfl) only[go_sem,h18,h16,hi0,hi1,hgr]
  refine SD.set (P:=Tryz.prog) (t:=201) (sd_zero v) (j:=0) (by simp) hUr.1.len hUr.1.ones rfl rfl ?_
  intro v1 hvs1 hL1 hk1
  have hX1:=Ext.alloc v (.cells #[.slice Option.none 0 0,v32 0,vi 0,.slice Option.none 0 0,.slice Option.none 0 0,.slice Option.none 0 0,.slice Option.none 0 0] 201 (0,0))
  have hEv:Ext v v1:=Keep.to_ext hX1 rfl (fun i hi=>by omega) hk1
  have hvsz:v1.heap.size=v.heap.size+1:=by rw[hvs1];exact zap _ _
  clear hk1 hX1 hvs1
  try simp only[go_sem]
  refine hK _ _ ?_;clear hK hgd;clear K;try clear gd
  have hE4:=hE3.trans hEv
  have hO1:=hO.ext hEv
  have hg9:=hL1.get (j:=0) (by simp)
  have hsO:=hO.rowK
  obtain⟨aO,cO,hvO,hcO,hgO⟩:=hO1.rowK
  rw[hOl]at hvO
  repeat refine c_r ?_
  refine rg2 h7 hvO ?_
  repeat refine c_r ?_
  refine zax (Q:=fun e σ' ds' v'=>e= .normal∧ds'=[]∧σ' 36= .bool (zej O r.1.2)∧σ' 18=vi i∧σ' 17=vi Z.length∧σ' 16= .slice (some xS) Z.length cS∧σ' 7= .slice aO O.length cO∧σ' 1= .func (.func 215) #[] #[]∧σ' 2= .func (.func 216) #[] #[]∧
   σ' 9= .pointer (some ⟨v.heap.size,0,Option.none⟩)∧σ' 10=vi O.length∧Ext v1 v') ?_ ?_
  ·rcases List.eq_nil_or_concat O with hO0| ⟨O',z,hO0⟩
   ·have hn:¬((0:Int)<(O.length:Int)):=by rw[hO0];simp
    have hal:zej O r.1.2=false:=by rw[hO0];rfl
    refine zaL (fun _=>false) [(0,true),(1,true),(2,true),(3,true),(4,true),(5,true),(6,true),(7,true),(8,true),(9,true),(10,false),(11,true),(12,true)] NoS mixed (by kernel_rfl) ?_;intro gd K x hgd hx hxe hK;clear hxe
    have hg2:∀n σ b,zas gd n σ (some (2,b))=zaj (ev n σ (.tmp 26)) b:=(fun n σ b=>by rw[zab,show gd 2=some 26 from(by rw[hgd];rfl)];rfl)
    simp (disch:=first|omega|assumption|rfl) only[go_sem,h18,h17,h16,h7,hvO,hs1,hs2,decide_eq_false hn,↓hg2]
    refine hK _ _ ?_;clear hK hgd;clear K;try clear gd
    exact⟨rfl,rfl,by rw[hal];simp only[go_sem],(vq1 h18),(vq1 h17),(vq1 h16),(vq2 h7 hvO),(vq1 hs1),(vq1 hs2),vq0,vq0,hx⟩
   ·rw[List.concat_eq_append]at hO0
    obtain⟨j,hj⟩:∃j,O'.length=j:=⟨_,rfl⟩
    have hOj:O.length=j+1:=by rw[hO0];simp[hj]
    have hn:decide ((0:Int)<((j+1:Nat):Int))=true:=decide_eq_true (by omega)
    have hs:((j+1:Nat):Int) - 1=(j:Int):=by omega
    have hj0:(0:Int)≤(j:Int):=by omega
    have hj1:(j:Int)<((j+1:Nat):Int):=by omega
    have hal:zej O r.1.2=decide (zaJ z r.1.2=0):=by unfold zej;rw[hO0];simp
    have hgj:=hgO j (by omega)
    have hRj:=hOat j (by omega) (by omega)
    have hxj:O[j]'(by omega)=z:=by simp only[hO0,←hj];simp
    rw[hxj]at hRj
    have hokx:zcw z:=hOok z (by rw[hO0];simp)
    obtain⟨xO,rfl⟩:=Option.isSome_iff_exists.1 (zan hgj)
    obtain⟨cx,hcx⟩:∃cx,LO[j]'(by omega)=cx:=⟨_,rfl⟩
    rw[hcx]at hgj hRj
    rw[hOj]at hvO ⊢
    refine zaL (fun _=>false) [(0,true),(1,true),(2,true),(3,true),(4,true),(5,true),(6,true),(7,true),(8,true),(9,true),(10,false),(11,true),(12,true)] NoS mixed (by kernel_rfl) ?_;intro gd K x hgd hx hxe hK;clear hxe
    have hg2:∀n σ b,zas gd n σ (some (2,b))=zaj (ev n σ (.tmp 26)) b:=(fun n σ b=>by rw[zab,show gd 2=some 26 from(by rw[hgd];rfl)];rfl)
    have d1:=zaf hx hgj
    have d2:=zaf hx hg9
    simp (disch:=first|omega|assumption|rfl) only[go_sem,h18,h17,h16,h7,hvO,hs1,hs2,hn,hs,hj0,hj1,d1,d2,hOj,↓hg2]
    refine Fn.mono (zdU x cx r.1.1 z r.1.2 (hRj.ext ((hE02.trans hE4).trans hx)) (hUr.1.ext ((hE02.trans hE4).trans hx)) hokx hUr.2) ?_
    rintro _ x2 ⟨rfl,hx2⟩
    refine⟨.inr hx2,?_⟩
    simp (disch:=first|omega|assumption|rfl) only[go_sem,↓hg2]
    refine hK _ _ ?_;clear hK hgd;clear K;try clear gd
    exact⟨rfl,rfl,by rw[hal];simp only[go_sem],(vq1 h18),(vq1 h17),(vq1 h16),(vq2 h7 hvO),(vq1 hs1),(vq1 hs2),vq0,vq0,hx.trans hx2⟩
  rintro _ σ2 _ v2 ⟨rfl,rfl,g36,g18,g17,g16,g7,gs1,gs2,g9,g10,hE5⟩
  have hE6:=hE4.trans hE5
  have hO2:=hO1.ext hE5
  have hg92:=zaf hE5 hg9
  have hi1':(i:Int)+1=((i+1:Nat):Int):=by push_cast;rfl
  have htk:Z.take (i+1)=Z.take i++ [r]:=by rw[zak hiZ,hr]
  have hf1:zcb zaJ minT (fun x:RI=>x.1.2) (Z.take (i+1)) []=putC zaJ minT r.1.2 O:=by
   rw[htk,hOf];unfold zcb;rw[List.foldl_append];rfl
  have hdr:Z.drop i=r::Z.drop (i+1):=by rw[List.drop_eq_getElem_cons hiZ,hr]
  have hn1:(putC zaJ minT r.1.2 O).Pairwise (fun a b=>zaJ a b<0):=zb4 cpr_R join_R hOs
  have hn2:∀o∈putC zaJ minT r.1.2 O,∀z∈Z.drop (i+1),¬0<zaJ o z.1.2:=by
   refine zcC (Q:=fun o=>∀z∈Z.drop (i+1),¬0<zaJ o z.1.2) (fun x hx h0 z hz=>?_) (fun z hz=>?_) (fun o ho z hz=>hOle o ho z (by rw[hdr];exact List.mem_cons_of_mem _ hz))
   ·have e1:zaJ (minT x r.1.2) z.1.2=zaJ x z.1.2:=rfl
    rw[e1];exact hx z hz
   ·have h3:=List.Pairwise.sublist (List.drop_sublist i Z) hs
    rw[hdr]at h3
    have h4:=(List.pairwise_cons.1 h3).1 z hz
    rcases h4 with h4|h4
    ·omega
    ·omega
  have hn3:∀o∈putC zaJ minT r.1.2 O,zcw o:=zcC (fun x hx _=>⟨hx.lb,hx.len,hx.dat⟩) hUr.2 hOok
  repeat refine c_r ?_
  refine zaO (t:=zej O r.1.2) (by simp only[go_sem,g36]) ?_ ?_
  ·intro hal
   rcases List.eq_nil_or_concat O with hO0| ⟨O',z,hO0⟩
   ·rw[hO0]at hal;simp[zej]at hal
   rw[List.concat_eq_append]at hO0
   have hz0:zaJ z r.1.2=0:=by unfold zej at hal;rw[hO0]at hal;simpa using hal
   obtain⟨j,hj⟩:∃j,O'.length=j:=⟨_,rfl⟩
   have hOj:O.length=j+1:=by rw[hO0];simp[hj]
   have hs:((j+1:Nat):Int) - 1=(j:Int):=by omega
   have hj0:(0:Int)≤(j:Int):=by omega
   have hj1:(j:Int)<((j+1:Nat):Int):=by omega
   have hRj:=hOat j (by omega) (by omega)
   have hxj:O[j]'(by omega)=z:=by simp only[hO0,←hj];simp
   rw[hxj]at hRj
   have hokz:zcw z:=hOok z (by rw[hO0];simp)
   obtain⟨cx,hcx⟩:∃cx,LO[j]'(by omega)=cx:=⟨_,rfl⟩
   rw[hcx]at hRj
   rw[hOj]at hvO g10 g7
   rcases hO2.cases with ⟨hv0,h0⟩| ⟨b,cap,hvb,hbB,hbc,hbm,hSD⟩
   ·rw[h0]at hOl;simp at hOl;omega
   rw[hvO,hOl,hOj]at hvb
   have hao:aO=some ⟨b,0,Option.none⟩:=by injection hvb
   have hcap:cO=cap:=by injection hvb
   subst hao hcap
   have hdj:=hSD.get (j:=j) (by omega)
   rw[hcx]at hdj
   repeat refine c_r ?_
   refine zaL (fun i=>i==12) [(0,true),(1,true),(2,true),(3,true),(4,true),(5,true),(6,true),(7,true),(8,true),(9,true),(10,false),(11,true),(12,false)] NoS mixed (by kernel_rfl) ?_;intro gd K x hgd hx hxe hK;clear hxe
   have d1:=zaf hx hdj
   have d2:=zaf hx hg92
   simp (disch:=first|omega|assumption|rfl) only[go_sem,g7,g10,gs2,g9,hs,hj0,hj1,d1,d2]
   refine Fn.mono (zhA x cx r.1.1 z r.1.2 (hRj.ext ((hE02.trans hE6).trans hx)) (hUr.1.ext ((hE02.trans hE6).trans hx))) ?_
   rintro _ v3 ⟨rfl,hE7⟩
   refine⟨.inr hE7,?_⟩
   simp (disch:=first|omega|assumption|rfl) only[go_sem,g7,g10,hs,hj0,hj1]
   have hSD3:=(hSD.ext hx).ext hE7
   have hRm:=hRj.minT (b:=r.1.2)
   refine SD.set (P:=Tryz.prog) (t:=201) hSD3 (j:=j) (by omega) hRm.len hRm.ones rfl rfl ?_
   intro v4 hv4 hL4 hk4
   refine⟨.inl rfl,?_⟩
   simp (disch:=first|omega|assumption|rfl) only[go_sem]
   refine hK _ _ ?_;clear hK hgd;clear K;try clear gd
   have hE8:Ext w2 v4:=Keep.to_ext ((hE6.trans hx).trans hE7) rfl (fun i hi=>by omega) hk4
   repeat refine c_r ?_
   refine rg2 g18 hi1' ?_
   repeat refine c_r ?_
   have hO4:=OwnK.of_sd (B:=w2.heap.size) hL4 hbB (by rw[List.length_set];exact hbc) hbm
   have hLl:LO.length=j+1:=by omega
   rw[List.length_set,hLl]at hO4
   have hput:putC zaJ minT r.1.2 O=O'++ [minT z r.1.2]:=by
    rw[hO0]at hOs hOle ⊢
    rw[zes cpr_R hOs (by omega),if_pos hz0]
   rw[hput]at hn1 hn2 hn3
   subst hO0
   refine⟨m - 1,by omega,rfl,i+1,.slice (some ⟨b,0,Option.none⟩) (j+1) cO,_,O'++ [minT z r.1.2],by omega,vq0,(vq1 g17),(vq1 g16),(vq1 g7),by simp only[go_sem,gs1],by simp only[go_sem,gs2],hO4,by simp[hLl,hj],recs_set hj hLl hOat hRm,hn3,by simp at hOi ⊢;omega,by rw[hf1,hput],hE8,hn1,hn2⟩
  ·intro hal
   have hput:putC zaJ minT r.1.2 O=O++ [r.1.2]:=by
    rcases List.eq_nil_or_concat O with hO0| ⟨O',z,hO0⟩
    ·rw[hO0];rfl
    ·rw[List.concat_eq_append]at hO0
     have hz0:¬zaJ z r.1.2=0:=by unfold zej at hal;rw[hO0]at hal;simpa using hal
     have hle:=hOle z (by rw[hO0];simp) r (by rw[hdr];simp)
     rw[hO0]at hOs ⊢
     rw[zes cpr_R hOs hle,if_neg hz0]
     simp
   rw[hput]at hn1 hn2 hn3
   rw[hvO]at hO2
   repeat refine c_r ?_
   refine rq ?_;intro gd K hgd hK
   try simp (disch:=first|omega|assumption|rfl) only[go_sem,g7,g9,hg92]
   refine zhu (k:=7) (by rfl) (by rfl) (by rfl) (by rfl) hUr.1.len (by decide) hUr.1.ones ?_
   intro x1 hX1 hXs hXo
   try simp only[go_sem]
   refine zeQ (k:=7) (B:=w2.heap.size) (hO2.ext hX1) hXo.rowK (by rfl) (by rfl) (by rfl) (by rfl) (by rfl) (by rfl) (by decide) (by rfl) (by rfl) hXo.len hXo.ones (by simp;omega) (by decide) (hE6.trans hX1).size ?_
   intro vO' x2 hO3 hE7 _ _ _
   try simp only[go_sem]
   refine hK _ _ ?_;clear hK hgd;clear K;try clear gd
   repeat refine c_r ?_
   refine rg2 g18 hi1' ?_
   repeat refine c_r ?_
   refine⟨m - 1,by omega,rfl,i+1,vO',_,O++ [r.1.2],by omega,vq0,(vq1 g17),(vq1 g16),vq0,by simp only[go_sem,gs1],by simp only[go_sem,gs2],hO3,by simp[hOl],zjw hOl hOat hUr.1,hn3,by simp;omega,by rw[hf1,hput],hE7 w2 (hE6.trans hX1) (Nat.le_refl _),hn1,hn2⟩
 ·intro hlt
  simp only[decide_eq_false_iff_not]at hlt
  have hiZ:i=Z.length:=by omega
  repeat refine c_r ?_
  refine rq ?_;intro gd K hgd hK
  try simp (disch:=first|omega|assumption|rfl) only[go_sem,h7]
  obtain⟨aO,cO,hvO,hcO,hgO⟩:=hO.rowK
  have hblk:BlkB w2.heap.size v vO:=Owns.blk (C:=RecAt w0) (xs:=O) ⟨LO,hO,hOl,hOat⟩
  rw[hvO]at hblk
  rw[hvO]
  refine Fn.mono (P_rr.Clip_ok hcO) ?_
  rintro _ v1 ⟨rfl,hv1⟩
  try simp only[go_sem]
  refine hK _ _ ?_;clear hK hgd;clear K;try clear gd
  repeat refine c_r ?_
  have hfin:O=zbB R:=by
   rw[hOf,hiZ,List.take_length,zcU (jn:=minT) cpr_R join_R (lt:=ltR) (older:=zgp) (fun h=>h.imp id (fun h=>h.2)) (fun {a b} h h'=>by unfold zgp at h h';omega) D Z [] hDo hs hp List.Pairwise.nil]
   unfold zbB zcb
   rw[←hDr,List.foldl_map];rfl
  refine rt0 Tryz.ntmps214 ?_
  rw[hv1]
  rw[←hfin]
  exact⟨⟨LO,⟨aO,LO.length,rfl,Nat.le_refl _,hgO⟩,hOl,hOat⟩,hE2.trans hE3,hblk.same.mono hE2.size⟩
theorem Canon_ok(w0 w:World)(hE0:Ext w0 w){v:Value}{R:List RecL}(hR:Rows 7 (RecAt w0) w v R)(hok:∀r∈R,zcw r)(hlen:R.length≤1000000000):
  Fn Tryz.prog 160 #[v] w (fun u w'=>Rows 7 (RecAt w0) w' u (zbB R)∧Ext w w'∧BlkB w.heap.size w' u):=by
 refine enter Tryz.func160 Tryz.ntmps160 rfl rfl ?_
 repeat refine c_r ?_
 refine rg0 ?_
 repeat refine c_r ?_
 refine rq ?_;intro gd K hgd hK
 try simp only[go_sem]
 refine Fn.mono (few_ok w0 w hE0 hR hok hlen) ?_
 rintro u w1 ⟨h1,hE1,hb⟩
 try simp only[go_sem]
 refine hK _ _ ?_;clear hK hgd;clear K;try clear gd
 repeat refine c_r ?_
 refine rt0 Tryz.ntmps160 ?_
 exact⟨h1,hE1,hb⟩
theorem zer(a b:Int):sgn (a - b)=cmpI a b:=by unfold sgn cmpI;(repeat' split)<;>omega
theorem zbm{a b:Int}:cmpI a b=0↔a=b:=by unfold cmpI;(repeat' split)<;>omega
theorem zfR{α:Type}{cf:α→α→Int}{a b:List α}{i:Nat}(ha:i≤a.length)(hb:i≤b.length)(h:¬(i<a.length∧i<b.length)):lexC cf (a.drop i) (b.drop i)=cmpI a.length b.length:=by
 rw[zcF (by
  rcases Nat.lt_or_ge i a.length with h1|h1
  ·exact .inr (List.drop_eq_nil_of_le (by omega))
  ·exact .inl (List.drop_eq_nil_of_le h1))]
 rw[List.length_drop,List.length_drop]
 unfold cmpI
 (repeat' split)<;>omega
theorem zkD(w:World)(a b:Int):Fn Tryz.prog 267 #[vi a,vi b] w (fun v w'=>v=vi (cmpI a b)∧Ext w w'):=by
 refine enter Tryz.func267 Tryz.ntmps267 rfl rfl ?_
 repeat (first|refine c_r ?_|refine rg0 ?_)
 refine wc0 ?_ ?_
 ·intro ht
  simp only[decide_eq_true_eq]at ht
  repeat (first|refine c_r ?_|refine rg0 ?_)
  refine rt0 Tryz.ntmps267 ?_
  exact⟨by rw[cmpI,if_pos ht],Keep.refl _ _⟩
 ·intro hf
  simp only[decide_eq_false_iff_not]at hf
  repeat (first|refine c_r ?_|refine rg0 ?_)
  refine wc0 ?_ ?_
  ·intro ht
   simp only[decide_eq_true_eq]at ht
   repeat (first|refine c_r ?_|refine rg0 ?_)
   refine rt0 Tryz.ntmps267 ?_
   exact⟨by rw[cmpI,if_neg hf,if_pos ht],Keep.refl _ _⟩
  ·intro hf2
   simp only[decide_eq_false_iff_not]at hf2
   repeat (first|refine c_r ?_|refine rg0 ?_)
   refine rt0 Tryz.ntmps267 ?_
   exact⟨by rw[cmpI,if_neg hf,if_neg hf2],Keep.refl _ _⟩
theorem zfj(w:World)(ca cb:List Value)(a b:DatL)(ha:DatAt w ca a)(hb:DatAt w cb b)(hoa:DatOk a)(hob:DatOk b):
  Fn Tryz.prog 220 #[.agg ca.toArray,.agg cb.toArray] w (fun v w'=>v=vi (cmpD a b)∧Ext w w'):=by
 obtain⟨nm,nu,tx,rw',rfl,a1,a2,a3,a4⟩:=ha.ex
 obtain⟨nm2,nu2,tx2,rw2,rfl,b1,b2,b3,b4⟩:=hb.ex
 obtain⟨vn,⟨sn,cn,rfl,hcn,hgn⟩,hvn,hrn⟩:=a1
 obtain⟨vn2,⟨sn2,cn2,rfl,hcn2,hgn2⟩,hvn2,hrn2⟩:=b1
 obtain⟨su,cu,rfl,hcu,hgu⟩:=a2
 obtain⟨su2,cu2,rfl,hcu2,hgu2⟩:=b2
 obtain⟨st,ct,rfl,hct,hgt⟩:=a3
 obtain⟨st2,ct2,rfl,hct2,hgt2⟩:=b3
 obtain⟨sr,cr,rfl,hcr,hgr⟩:=a4
 obtain⟨sr2,cr2,rfl,hcr2,hgr2⟩:=b4
 have hnn:=hoa.nn
 have hnn2:=hob.nn
 have hnu:=hoa.nu
 have hnu2:=hob.nu
 have hnt:=hoa.nt
 have hnt2:=hob.nt
 rw[hvn]at hcn ⊢
 rw[hvn2]at hcn2 ⊢
 simp only[List.length_map]at hcu hgu hcu2 hgu2 hct hgt hct2 hgt2 hcr hgr hcr2 hgr2 ⊢
 refine enter Tryz.func220 Tryz.ntmps220 rfl rfl ?_
 repeat refine c_r ?_
 refine rg0 ?_
 repeat refine c_r ?_
 obtain⟨OA,hOA⟩:∃OA:Obj,(.cells #[vi a.ty,.slice sn a.names.length cn,.slice su a.nums.length cu,.slice st a.texts.length ct,.slice sr a.raw.length cr] 208 (0,0))=OA:=⟨_,rfl⟩
 obtain⟨OB,hOB⟩:∃OB:Obj,(.cells #[vi b.ty,.slice sn2 b.names.length cn2,.slice su2 b.nums.length cu2,.slice st2 b.texts.length ct2,.slice sr2 b.raw.length cr2] 208 (0,0))=OB:=⟨_,rfl⟩
 simp only[hOA,hOB]
 have hal:=zc2 w OA OB
 rw[show (w.alloc OA).heap.size=w.heap.size+1 from zap _ _]
 revert hal
 generalize (w.alloc OA).alloc OB=w1
 rintro⟨hE1,hs1,hA,hB⟩
 subst hOA hOB
 have rd:∀x,Ext w1 x→zah x (some ⟨w.heap.size,0,Option.none⟩)=some (vi a.ty)∧zah x (some ⟨w.heap.size,1,Option.none⟩)=some (.slice sn a.names.length cn)∧zah x (some ⟨w.heap.size,2,Option.none⟩)=some (.slice su a.nums.length cu)∧zah x (some ⟨w.heap.size,3,Option.none⟩)=some (.slice st a.texts.length ct)∧zah x (some ⟨w.heap.size,4,Option.none⟩)=some (.slice sr a.raw.length cr):=
  fun x hx=>⟨zaa hx (zac hA rfl),zaa hx (zac hA rfl),zaa hx (zac hA rfl),zaa hx (zac hA rfl),zaa hx (zac hA rfl)⟩
 have rd2:∀x,Ext w1 x→zah x (some ⟨w.heap.size+1,0,Option.none⟩)=some (vi b.ty)∧zah x (some ⟨w.heap.size+1,1,Option.none⟩)=some (.slice sn2 b.names.length cn2)∧zah x (some ⟨w.heap.size+1,2,Option.none⟩)=some (.slice su2 b.nums.length cu2)∧zah x (some ⟨w.heap.size+1,3,Option.none⟩)=some (.slice st2 b.texts.length ct2)∧zah x (some ⟨w.heap.size+1,4,Option.none⟩)=some (.slice sr2 b.raw.length cr2):=
  fun x hx=>⟨zaa hx (zac hB rfl),zaa hx (zac hB rfl),zaa hx (zac hB rfl),zaa hx (zac hB rfl),zaa hx (zac hB rfl)⟩
 clear hA hB
 obtain⟨p0,p1,p2,p3,p4⟩:=rd w1 (Keep.refl _ _)
 obtain⟨q0,q1,q2,q3,q4⟩:=rd2 w1 (Keep.refl _ _)
 refine rq ?_;intro gd K hgd hK
 try simp (disch:=first|omega|assumption|rfl) only[go_sem,p0,q0,Nat.add_zero]
 refine hK _ _ ?_;clear hK hgd;clear K;try clear gd
 repeat refine c_r ?_
 refine wc0 ?_ ?_
 ·intro hne
  simp only[Bool.not_eq_true',decide_eq_false_iff_not]at hne
  repeat refine c_r ?_
  refine rq ?_;intro gd K hgd hK
  try simp (disch:=first|omega|assumption|rfl) only[go_sem,p0,q0,Nat.add_zero]
  refine Fn.mono (zkD _ _ _) ?_
  rintro _ w2 ⟨rfl,hE2⟩
  try simp only[go_sem]
  refine hK _ _ ?_;clear hK hgd;clear K;try clear gd
  repeat refine c_r ?_
  refine rt0 Tryz.ntmps220 ?_
  exact⟨by simp only[cmpD,orI];rw[if_neg (fun h=>hne (zbm.1 h))],hE1.trans hE2⟩
 intro heq
 simp only[Bool.not_eq_false',decide_eq_true_eq]at heq
 have hz0:=zbm.2 heq
 repeat refine c_r ?_
 refine rg0 ?_
 repeat refine c_r ?_
 refine zai (fun m σ ds v=>ds=[]∧∃i:Nat,i+m=a.names.length∧i≤b.names.length∧σ 5=vi i∧σ 2= .pointer (some ⟨w.heap.size,0,Option.none⟩)∧σ 3= .pointer (some ⟨w.heap.size+1,0,Option.none⟩)∧Ext w1 v∧lexC zci a.names b.names=lexC zci (a.names.drop i) (b.names.drop i)) a.names.length ?_ ?_
 ·exact⟨rfl,0,by omega,by omega,vr0,vq0,vq0,Keep.refl _ _,rfl⟩
 rintro m σ ds v ⟨rfl,i,him,hib,h5,h2,h3,hEv,hinv⟩
 obtain⟨p0,p1,p2,p3,p4⟩:=rd v hEv
 obtain⟨q0,q1,q2,q3,q4⟩:=rd2 v hEv
 repeat refine c_r ?_
 refine zax (Q:=fun e σ' ds' v'=>e= .normal∧ds'=[]∧v'=v∧σ' 5=vi i∧σ' 2= .pointer (some ⟨w.heap.size,0,Option.none⟩)∧σ' 3= .pointer (some ⟨w.heap.size+1,0,Option.none⟩)∧σ' 31= .bool (decide (i<a.names.length∧i<b.names.length))) ?_ ?_
 ·refine rq ?_;intro gd K hgd hK
  have hg5:∀n σ b,zas gd n σ (some (5,b))=zaj (ev n σ (.tmp 25)) b:=(fun n σ b=>by rw[zab,show gd 5=some 25 from(by rw[hgd];rfl)];rfl)
  by_cases c1:(i:Int)<(a.names.length:Int)
  ·try simp (disch:=first|omega|assumption|rfl) only[go_sem,h5,h2,h3,p1,p2,p3,q1,q2,q3,Nat.zero_add,decide_eq_true c1,↓hg5]
   refine hK _ _ ?_;clear hK hgd;clear K;try clear gd
   refine⟨rfl,rfl,rfl,(vq1 h5),(vq1 h2),(vq1 h3),?_⟩
   rw[show decide (i<a.names.length∧i<b.names.length)=decide ((i:Int)<(b.names.length:Int)) from decide_eq_decide.2 ⟨fun h=>by omega,fun h=>⟨by omega,by omega⟩⟩]
   simp only[go_sem]
  ·try simp (disch:=first|omega|assumption|rfl) only[go_sem,h5,h2,h3,p1,p2,p3,q1,q2,q3,Nat.zero_add,decide_eq_false c1,↓hg5]
   refine hK _ _ ?_;clear hK hgd;clear K;try clear gd
   refine⟨rfl,rfl,rfl,(vq1 h5),(vq1 h2),(vq1 h3),?_⟩
   rw[show decide (i<a.names.length∧i<b.names.length)=false from decide_eq_false (fun h=>c1 (by omega))]
   simp only[go_sem]
 clear h5 h2 h3
 rintro _ σ1 _ v1 ⟨rfl,rfl,hv1,h5,h2,h3,hsc⟩
 rw[hv1]
 clear hv1 v1
 repeat refine c_r ?_
 refine zaO (t:=decide (i<a.names.length∧i<b.names.length)) ((vq1 hsc)) ?_ ?_
 ·intro hlt
  simp only[decide_eq_true_eq]at hlt
  have hi0:(0:Int)≤(i:Int):=by omega
  have hia:(i:Int)<(a.names.length:Int):=by omega
  have hib2:(i:Int)<(b.names.length:Int):=by omega
  have hi1':(i:Int)+1=((i+1:Nat):Int):=by push_cast;rfl
  have hstep:=zcp (cf:=zci) hlt.1 hlt.2
  repeat refine c_r ?_
  have d1:=hgn i (by omega)
  have d2:=hgn2 i (by omega)
  obtain⟨xa,rfl⟩:=Option.isSome_iff_exists.1 (zad d1)
  obtain⟨xb,rfl⟩:=Option.isSome_iff_exists.1 (zad d2)
  refine zaL (fun _=>false) [(0,true),(1,true),(2,true),(3,true),(4,true),(5,true),(6,true),(7,true),(8,true),(9,true),(10,false),(11,true)] NoS mixed (by kernel_rfl) ?_;intro gd K x hgd hx hxe hK;clear hxe
  obtain⟨p0',p1',p2',p3',p4'⟩:=rd x (hEv.trans hx)
  obtain⟨q0',q1',q2',q3',q4'⟩:=rd2 x (hEv.trans hx)
  have d1':=zaa ((hE1.trans hEv).trans hx) d1
  have d2':=zaa ((hE1.trans hEv).trans hx) d2
  simp (disch:=first|omega|assumption|rfl) only[go_sem,h5,h2,h3,p1',p3',q1',q3',Nat.zero_add,hi0,hia,hib2,d1',d2']
  refine Fn.mono (zca _ _ _ _ _ ((hrn i (by omega) hlt.1).ext ((hE1.trans hEv).trans hx)) ((hrn2 i (by omega) hlt.2).ext ((hE1.trans hEv).trans hx)) (hoa.names _ (List.getElem_mem hlt.1)).1 (hob.names _ (List.getElem_mem hlt.2)).1 (by have:=(hoa.names _ (List.getElem_mem hlt.1)).2;omega) (by have:=(hob.names _ (List.getElem_mem hlt.2)).2;omega)) ?_
  rintro _ x1 ⟨rfl,hx1⟩
  refine⟨.inr hx1,?_⟩
  simp (disch:=first|omega|assumption|rfl) only[go_sem]
  refine hK _ _ ?_;clear hK hgd;clear K;try clear gd
  repeat refine c_r ?_
  refine rg0 ?_
  repeat refine c_r ?_
  refine wc0 ?_ ?_
  ·intro hne
   simp only[Bool.not_eq_true',decide_eq_false_iff_not]at hne
   repeat (first|refine c_r ?_|refine rg0 ?_)
   refine rt0 Tryz.ntmps220 ?_
   refine⟨?_,((hE1.trans hEv).trans hx).trans hx1⟩
   have hc:zci a.names[i] b.names[i]≠0:=hne
   simp only[cmpD,orI]
   rw[if_pos hz0,hinv,hstep,if_neg hc,if_neg hc]
   rfl
  ·intro heq
   simp only[Bool.not_eq_false',decide_eq_true_eq]at heq
   have hc:zci a.names[i] b.names[i]=0:=heq
   repeat refine c_r ?_
   refine rg2 h5 hi1' ?_
   repeat refine c_r ?_
   exact⟨m - 1,by omega,rfl,i+1,by omega,by omega,vq0,(vq1 h2),(vq1 h3),(hEv.trans hx).trans hx1,by rw[hinv,hstep,if_pos hc]⟩
 intro hge
 simp only[decide_eq_false_iff_not]at hge
 have hend:=zfR (cf:=zci) (by omega:i≤a.names.length) hib hge
 repeat refine c_r ?_
 refine rq ?_;intro gd K hgd hK
 try simp (disch:=first|omega|assumption|rfl) only[go_sem,h2,h3,p1,p2,p3,q1,q2,q3,Nat.zero_add]
 refine hK _ _ ?_;clear hK hgd;clear K;try clear gd
 repeat refine c_r ?_
 refine wc0 ?_ ?_
 ·intro hne
  simp only[Bool.not_eq_true',decide_eq_false_iff_not]at hne
  have hne2:¬((a.names.length:Int)=(b.names.length:Int)):=fun h=>hne (by omega)
  repeat refine c_r ?_
  refine rq ?_;intro gd K hgd hK
  try simp (disch:=first|omega|assumption|rfl) only[go_sem,h2,h3,p1,p2,p3,q1,q2,q3,Nat.zero_add]
  refine Fn.mono (zdl _ _) ?_
  rintro _ x1 ⟨rfl,hx1⟩
  try simp only[go_sem]
  refine hK _ _ ?_;clear hK hgd;clear K;try clear gd
  repeat refine c_r ?_
  refine rt0 Tryz.ntmps220 ?_
  refine⟨?_,(hE1.trans hEv).trans hx1⟩
  have hc:lexC zci a.names b.names≠0:=by rw[hinv,hend];exact fun h=>hne2 (zbm.1 h)
  rw[zer]
  simp only[cmpD,orI]
  rw[if_pos hz0,if_neg hc,hinv,hend]
 intro heql
 simp only[Bool.not_eq_false',decide_eq_true_eq]at heql
 have heql2:(a.names.length:Int)=(b.names.length:Int):=by omega
 have hz1:lexC zci a.names b.names=0:=by rw[hinv,hend];exact zbm.2 heql2
 have g2:=h2
 have g3:=h3
 have hEL0:=hEv
 clear hsc hinv hend hge him hib
 repeat refine c_r ?_
 refine rg0 ?_
 repeat refine c_r ?_
 refine zai (fun m σ ds v=>ds=[]∧∃i:Nat,i+m=a.nums.length∧i≤b.nums.length∧σ 7=vi i∧σ 2= .pointer (some ⟨w.heap.size,0,Option.none⟩)∧σ 3= .pointer (some ⟨w.heap.size+1,0,Option.none⟩)∧Ext w1 v∧lexC cmpI a.nums b.nums=lexC cmpI (a.nums.drop i) (b.nums.drop i)) a.nums.length ?_ ?_
 ·exact⟨rfl,0,by omega,by omega,vr0,(vq1 g2),(vq1 g3),hEL0,rfl⟩
 rintro m σ ds v ⟨rfl,i,him,hib,h5,h2,h3,hEv,hinv⟩
 obtain⟨p0,p1,p2,p3,p4⟩:=rd v hEv
 obtain⟨q0,q1,q2,q3,q4⟩:=rd2 v hEv
 repeat refine c_r ?_
 refine zax (Q:=fun e σ' ds' v'=>e= .normal∧ds'=[]∧v'=v∧σ' 7=vi i∧σ' 2= .pointer (some ⟨w.heap.size,0,Option.none⟩)∧σ' 3= .pointer (some ⟨w.heap.size+1,0,Option.none⟩)∧σ' 74= .bool (decide (i<a.nums.length∧i<b.nums.length))) ?_ ?_
 ·refine rq ?_;intro gd K hgd hK
  have hg5:∀n σ b,zas gd n σ (some (5,b))=zaj (ev n σ (.tmp 68)) b:=(fun n σ b=>by rw[zab,show gd 5=some 68 from(by rw[hgd];rfl)];rfl)
  by_cases c1:(i:Int)<(a.nums.length:Int)
  ·try simp (disch:=first|omega|assumption|rfl) only[go_sem,h5,h2,h3,p1,p2,p3,q1,q2,q3,Nat.zero_add,decide_eq_true c1,↓hg5]
   refine hK _ _ ?_;clear hK hgd;clear K;try clear gd
   refine⟨rfl,rfl,rfl,(vq1 h5),(vq1 h2),(vq1 h3),?_⟩
   rw[show decide (i<a.nums.length∧i<b.nums.length)=decide ((i:Int)<(b.nums.length:Int)) from decide_eq_decide.2 ⟨fun h=>by omega,fun h=>⟨by omega,by omega⟩⟩]
   simp only[go_sem]
  ·try simp (disch:=first|omega|assumption|rfl) only[go_sem,h5,h2,h3,p1,p2,p3,q1,q2,q3,Nat.zero_add,decide_eq_false c1,↓hg5]
   refine hK _ _ ?_;clear hK hgd;clear K;try clear gd
   refine⟨rfl,rfl,rfl,(vq1 h5),(vq1 h2),(vq1 h3),?_⟩
   rw[show decide (i<a.nums.length∧i<b.nums.length)=false from decide_eq_false (fun h=>c1 (by omega))]
   simp only[go_sem]
 clear h5 h2 h3
 rintro _ σ1 _ v1 ⟨rfl,rfl,hv1,h5,h2,h3,hsc⟩
 rw[hv1]
 clear hv1 v1
 repeat refine c_r ?_
 refine zaO (t:=decide (i<a.nums.length∧i<b.nums.length)) ((vq1 hsc)) ?_ ?_
 ·intro hlt
  simp only[decide_eq_true_eq]at hlt
  have hi0:(0:Int)≤(i:Int):=by omega
  have hia:(i:Int)<(a.nums.length:Int):=by omega
  have hib2:(i:Int)<(b.nums.length:Int):=by omega
  have hi1':(i:Int)+1=((i+1:Nat):Int):=by push_cast;rfl
  have hstep:=zcp (cf:=cmpI) hlt.1 hlt.2
  repeat refine c_r ?_
  have d1:=hgu i (by simpa using hlt.1)
  have d2:=hgu2 i (by simpa using hlt.2)
  rw[List.getElem_map]at d1 d2
  obtain⟨xa,rfl⟩:=Option.isSome_iff_exists.1 (zad d1)
  obtain⟨xb,rfl⟩:=Option.isSome_iff_exists.1 (zad d2)
  have hva:=hoa.nv _ (List.getElem_mem hlt.1)
  have hvb:=hob.nv _ (List.getElem_mem hlt.2)
  have ec1:IntKind.i64.wrap a.nums[i]=a.nums[i]:=zhG (by omega) (by omega)
  have ec2:IntKind.i64.wrap b.nums[i]=b.nums[i]:=zhG (by omega) (by omega)
  refine zaL (fun _=>false) [(0,true),(1,true),(2,true),(3,true),(4,true),(5,true),(6,true),(7,true),(8,true),(9,true),(10,true)] NoS mixed (by kernel_rfl) ?_;intro gd K x hgd hx hxe hK;clear hxe
  obtain⟨p0',p1',p2',p3',p4'⟩:=rd x (hEv.trans hx)
  obtain⟨q0',q1',q2',q3',q4'⟩:=rd2 x (hEv.trans hx)
  have d1':=zaa ((hE1.trans hEv).trans hx) d1
  have d2':=zaa ((hE1.trans hEv).trans hx) d2
  simp (disch:=first|omega|assumption|rfl) only[go_sem,h5,h2,h3,p2',q2',Nat.zero_add,hi0,hia,hib2,d1',d2']
  refine hK _ _ ?_;clear hK hgd;clear K;try clear gd
  repeat refine c_r ?_
  refine wc0 ?_ ?_
  ·intro hne
   simp only[Bool.not_eq_true',decide_eq_false_iff_not]at hne
   have hEx:=hEv.trans hx
   clear p0' p1' p2' p3' p4' q0' q1' q2' q3' q4'
   generalize x=y at*
   repeat refine c_r ?_
   refine zaL (fun _=>false) [(0,true),(1,true),(2,true),(3,true),(4,true),(5,true),(6,true),(7,true),(8,true),(9,true),(10,true),(11,true),(12,true),(13,false),(14,true)] NoS mixed (by kernel_rfl) ?_;intro gd K x hgd hx hxe hK;clear hxe
   obtain⟨p0',p1',p2',p3',p4'⟩:=rd x (hEx.trans hx)
   obtain⟨q0',q1',q2',q3',q4'⟩:=rd2 x (hEx.trans hx)
   have d1':=zaa ((hE1.trans hEx).trans hx) d1
   have d2':=zaa ((hE1.trans hEx).trans hx) d2
   simp (disch:=first|omega|assumption|rfl) only[go_sem,h5,h2,h3,p2',q2',Nat.zero_add,hi0,hia,hib2,d1',d2',ec1,ec2]
   refine Fn.mono (zdl _ _) ?_
   rintro _ x1 ⟨rfl,hx1⟩
   refine⟨.inr hx1,?_⟩
   simp (disch:=first|omega|assumption|rfl) only[go_sem]
   refine hK _ _ ?_;clear hK hgd;clear K;try clear gd
   repeat refine c_r ?_
   refine rt0 Tryz.ntmps220 ?_
   refine⟨?_,((hE1.trans hEx).trans hx).trans hx1⟩
   have hc:cmpI a.nums[i] b.nums[i]≠0:=fun h=>hne (zbm.1 h)
   rw[zer]
   simp only[cmpD,orI]
   rw[if_pos hz0,if_pos hz1,hinv,hstep,if_neg hc,if_neg hc]
  ·intro heq
   simp only[Bool.not_eq_false',decide_eq_true_eq]at heq
   have hc:cmpI a.nums[i] b.nums[i]=0:=zbm.2 heq
   repeat refine c_r ?_
   refine rg2 h5 hi1' ?_
   repeat refine c_r ?_
   exact⟨m - 1,by omega,rfl,i+1,by omega,by omega,vq0,(vq1 h2),(vq1 h3),hEv.trans hx,by rw[hinv,hstep,if_pos hc]⟩
 intro hge
 simp only[decide_eq_false_iff_not]at hge
 have hend:=zfR (cf:=cmpI) (by omega:i≤a.nums.length) hib hge
 repeat refine c_r ?_
 refine rq ?_;intro gd K hgd hK
 try simp (disch:=first|omega|assumption|rfl) only[go_sem,h2,h3,p1,p2,p3,q1,q2,q3,Nat.zero_add]
 refine hK _ _ ?_;clear hK hgd;clear K;try clear gd
 repeat refine c_r ?_
 refine wc0 ?_ ?_
 ·intro hne
  simp only[Bool.not_eq_true',decide_eq_false_iff_not]at hne
  have hne2:¬((a.nums.length:Int)=(b.nums.length:Int)):=fun h=>hne (by omega)
  repeat refine c_r ?_
  refine rq ?_;intro gd K hgd hK
  try simp (disch:=first|omega|assumption|rfl) only[go_sem,h2,h3,p1,p2,p3,q1,q2,q3,Nat.zero_add]
  refine Fn.mono (zdl _ _) ?_
  rintro _ x1 ⟨rfl,hx1⟩
  try simp only[go_sem]
  refine hK _ _ ?_;clear hK hgd;clear K;try clear gd
  repeat refine c_r ?_
  refine rt0 Tryz.ntmps220 ?_
  refine⟨?_,(hE1.trans hEv).trans hx1⟩
  have hc:lexC cmpI a.nums b.nums≠0:=by rw[hinv,hend];exact fun h=>hne2 (zbm.1 h)
  rw[zer]
  simp only[cmpD,orI]
  rw[if_pos hz0,if_pos hz1,if_neg hc,hinv,hend]
 intro heql
 simp only[Bool.not_eq_false',decide_eq_true_eq]at heql
 have heql2:(a.nums.length:Int)=(b.nums.length:Int):=by omega
 have hz2:lexC cmpI a.nums b.nums=0:=by rw[hinv,hend];exact zbm.2 heql2
 have g2:=h2
 have g3:=h3
 have hEL1:=hEv
 clear hsc hinv hend hge him hib
 repeat refine c_r ?_
 refine rg0 ?_
 repeat refine c_r ?_
 refine zai (fun m σ ds v=>ds=[]∧∃i:Nat,i+m=a.texts.length∧i≤b.texts.length∧σ 8=vi i∧σ 2= .pointer (some ⟨w.heap.size,0,Option.none⟩)∧σ 3= .pointer (some ⟨w.heap.size+1,0,Option.none⟩)∧Ext w1 v∧lexC cmpL a.texts b.texts=lexC cmpL (a.texts.drop i) (b.texts.drop i)) a.texts.length ?_ ?_
 ·exact⟨rfl,0,by omega,by omega,vr0,(vq1 g2),(vq1 g3),hEL1,rfl⟩
 rintro m σ ds v ⟨rfl,i,him,hib,h5,h2,h3,hEv,hinv⟩
 obtain⟨p0,p1,p2,p3,p4⟩:=rd v hEv
 obtain⟨q0,q1,q2,q3,q4⟩:=rd2 v hEv
 repeat refine c_r ?_
 refine zax (Q:=fun e σ' ds' v'=>e= .normal∧ds'=[]∧v'=v∧σ' 8=vi i∧σ' 2= .pointer (some ⟨w.heap.size,0,Option.none⟩)∧σ' 3= .pointer (some ⟨w.heap.size+1,0,Option.none⟩)∧σ' 128= .bool (decide (i<a.texts.length∧i<b.texts.length))) ?_ ?_
 ·refine rq ?_;intro gd K hgd hK
  have hg5:∀n σ b,zas gd n σ (some (5,b))=zaj (ev n σ (.tmp 122)) b:=(fun n σ b=>by rw[zab,show gd 5=some 122 from(by rw[hgd];rfl)];rfl)
  by_cases c1:(i:Int)<(a.texts.length:Int)
  ·try simp (disch:=first|omega|assumption|rfl) only[go_sem,h5,h2,h3,p1,p2,p3,q1,q2,q3,Nat.zero_add,decide_eq_true c1,↓hg5]
   refine hK _ _ ?_;clear hK hgd;clear K;try clear gd
   refine⟨rfl,rfl,rfl,(vq1 h5),(vq1 h2),(vq1 h3),?_⟩
   rw[show decide (i<a.texts.length∧i<b.texts.length)=decide ((i:Int)<(b.texts.length:Int)) from decide_eq_decide.2 ⟨fun h=>by omega,fun h=>⟨by omega,by omega⟩⟩]
   simp only[go_sem]
  ·try simp (disch:=first|omega|assumption|rfl) only[go_sem,h5,h2,h3,p1,p2,p3,q1,q2,q3,Nat.zero_add,decide_eq_false c1,↓hg5]
   refine hK _ _ ?_;clear hK hgd;clear K;try clear gd
   refine⟨rfl,rfl,rfl,(vq1 h5),(vq1 h2),(vq1 h3),?_⟩
   rw[show decide (i<a.texts.length∧i<b.texts.length)=false from decide_eq_false (fun h=>c1 (by omega))]
   simp only[go_sem]
 clear h5 h2 h3
 rintro _ σ1 _ v1 ⟨rfl,rfl,hv1,h5,h2,h3,hsc⟩
 rw[hv1]
 clear hv1 v1
 repeat refine c_r ?_
 refine zaO (t:=decide (i<a.texts.length∧i<b.texts.length)) ((vq1 hsc)) ?_ ?_
 ·intro hlt
  simp only[decide_eq_true_eq]at hlt
  have hi0:(0:Int)≤(i:Int):=by omega
  have hia:(i:Int)<(a.texts.length:Int):=by omega
  have hib2:(i:Int)<(b.texts.length:Int):=by omega
  have hi1':(i:Int)+1=((i+1:Nat):Int):=by push_cast;rfl
  have hstep:=zcp (cf:=cmpL) hlt.1 hlt.2
  repeat refine c_r ?_
  have d1:=hgt i (by simpa using hlt.1)
  have d2:=hgt2 i (by simpa using hlt.2)
  rw[List.getElem_map]at d1 d2
  obtain⟨xa,rfl⟩:=Option.isSome_iff_exists.1 (zad d1)
  obtain⟨xb,rfl⟩:=Option.isSome_iff_exists.1 (zad d2)
  refine zaL (fun _=>false) [(0,true),(1,true),(2,true),(3,true),(4,true),(5,true),(6,true),(7,true),(8,true),(9,true),(10,false),(11,true)] NoS mixed (by kernel_rfl) ?_;intro gd K x hgd hx hxe hK;clear hxe
  obtain⟨p0',p1',p2',p3',p4'⟩:=rd x (hEv.trans hx)
  obtain⟨q0',q1',q2',q3',q4'⟩:=rd2 x (hEv.trans hx)
  have d1':=zaa ((hE1.trans hEv).trans hx) d1
  have d2':=zaa ((hE1.trans hEv).trans hx) d2
  simp (disch:=first|omega|assumption|rfl) only[go_sem,h5,h2,h3,p1',p3',q1',q3',Nat.zero_add,hi0,hia,hib2,d1',d2']
  refine Fn.mono (zfi _ _ _) ?_
  rintro _ x1 ⟨rfl,hx1⟩
  refine⟨.inr hx1,?_⟩
  simp (disch:=first|omega|assumption|rfl) only[go_sem]
  refine hK _ _ ?_;clear hK hgd;clear K;try clear gd
  repeat refine c_r ?_
  refine rg0 ?_
  repeat refine c_r ?_
  refine wc0 ?_ ?_
  ·intro hne
   simp only[Bool.not_eq_true',decide_eq_false_iff_not]at hne
   repeat (first|refine c_r ?_|refine rg0 ?_)
   refine rt0 Tryz.ntmps220 ?_
   refine⟨?_,((hE1.trans hEv).trans hx).trans hx1⟩
   have hc:cmpL a.texts[i] b.texts[i]≠0:=hne
   simp only[cmpD,orI]
   rw[if_pos hz0,if_pos hz1,if_pos hz2,hinv,hstep,if_neg hc,if_neg hc]
  ·intro heq
   simp only[Bool.not_eq_false',decide_eq_true_eq]at heq
   have hc:cmpL a.texts[i] b.texts[i]=0:=heq
   repeat refine c_r ?_
   refine rg2 h5 hi1' ?_
   repeat refine c_r ?_
   exact⟨m - 1,by omega,rfl,i+1,by omega,by omega,vq0,(vq1 h2),(vq1 h3),(hEv.trans hx).trans hx1,by rw[hinv,hstep,if_pos hc]⟩
 intro hge
 simp only[decide_eq_false_iff_not]at hge
 have hend:=zfR (cf:=cmpL) (by omega:i≤a.texts.length) hib hge
 repeat refine c_r ?_
 refine rq ?_;intro gd K hgd hK
 try simp (disch:=first|omega|assumption|rfl) only[go_sem,h2,h3,p1,p2,p3,q1,q2,q3,Nat.zero_add]
 refine hK _ _ ?_;clear hK hgd;clear K;try clear gd
 repeat refine c_r ?_
 refine wc0 ?_ ?_
 ·intro hne
  simp only[Bool.not_eq_true',decide_eq_false_iff_not]at hne
  have hne2:¬((a.texts.length:Int)=(b.texts.length:Int)):=fun h=>hne (by omega)
  repeat refine c_r ?_
  refine rq ?_;intro gd K hgd hK
  try simp (disch:=first|omega|assumption|rfl) only[go_sem,h2,h3,p1,p2,p3,q1,q2,q3,Nat.zero_add]
  refine Fn.mono (zdl _ _) ?_
  rintro _ x1 ⟨rfl,hx1⟩
  try simp only[go_sem]
  refine hK _ _ ?_;clear hK hgd;clear K;try clear gd
  repeat refine c_r ?_
  refine rt0 Tryz.ntmps220 ?_
  refine⟨?_,(hE1.trans hEv).trans hx1⟩
  have hc:lexC cmpL a.texts b.texts≠0:=by rw[hinv,hend];exact fun h=>hne2 (zbm.1 h)
  rw[zer]
  simp only[cmpD,orI]
  rw[if_pos hz0,if_pos hz1,if_pos hz2,if_neg hc,hinv,hend]
 intro heql
 simp only[Bool.not_eq_false',decide_eq_true_eq]at heql
 have heql2:(a.texts.length:Int)=(b.texts.length:Int):=by omega
 have hz3:lexC cmpL a.texts b.texts=0:=by rw[hinv,hend];exact zbm.2 heql2
 have g2:=h2
 have g3:=h3
 have hEL2:=hEv
 repeat refine c_r ?_
 refine rq ?_;intro gd K hgd hK
 try simp (disch:=first|omega|assumption|rfl) only[go_sem,h2,h3,p4,q4,Nat.zero_add]
 refine zde (l:=a.raw) rfl rfl rfl (vq0) (fun j hj=>?_) ?_
 ·have:=zaa (hE1.trans hEv) (hgr j (by simpa using hj))
  rw[List.getElem_map]at this;exact this
 try simp (disch:=first|omega|assumption|rfl) only[go_sem,h2,h3,p4,q4,Nat.zero_add]
 refine zde (l:=b.raw) rfl rfl rfl (vq0) (fun j hj=>?_) ?_
 ·have:=zaa (hE1.trans hEv) (hgr2 j (by simpa using hj))
  rw[List.getElem_map]at this;exact this
 try simp only[go_sem]
 refine Fn.mono (zfi _ _ _) ?_
 rintro _ x1 ⟨rfl,hx1⟩
 try simp only[go_sem]
 refine hK _ _ ?_;clear hK hgd;clear K;try clear gd
 repeat refine c_r ?_
 refine rt0 Tryz.ntmps220 ?_
 refine⟨?_,(hE1.trans hEv).trans hx1⟩
 simp only[cmpD,orI]
 rw[if_pos hz0,if_pos hz1,if_pos hz2,if_pos hz3]
 by_cases hr:cmpL a.raw b.raw=0
 ·rw[if_pos hr,hr]
 ·rw[if_neg hr]
theorem zgD(a b:RecL):zaJ a b=if zci a.owner b.owner=0 then cmpD a.dat b.dat else zci a.owner b.owner:=by
 simp only[zaJ,cmpD,orI]
 (repeat' split)<;>simp_all
theorem zdt(w:World)(ca cb:List Value)(a b:RecL)(ha:RecAt w ca a)(hb:RecAt w cb b)(hoa:zcw a)(hob:zcw b):
  Fn Tryz.prog 165 #[.agg ca.toArray,.agg cb.toArray] w (fun v w'=>v=vi (zaJ a b)∧Ext w w'):=by
 obtain⟨ow,ds,rfl,a1,a2⟩:=ha.ex
 obtain⟨ow2,ds2,rfl,b1,b2⟩:=hb.ex
 have a2':=a2
 have b2':=b2
 obtain⟨nm,nu,tx,rw',rfl,_⟩:=a2.ex
 obtain⟨nm2,nu2,tx2,rw2,rfl,_⟩:=b2.ex
 refine enter Tryz.func165 Tryz.ntmps165 rfl rfl ?_
 repeat refine c_r ?_
 refine rg0 ?_
 repeat refine c_r ?_
 rw[zap]
 refine zbP ?_
 intro w1 hE1 hs1 hA hB
 have p0:zah w1 (some ⟨w.heap.size,0,Option.none⟩)=some ow:=zac hA rfl
 have q0:zah w1 (some ⟨w.heap.size+1,0,Option.none⟩)=some ow2:=zac hB rfl
 refine rq ?_;intro gd K hgd hK
 try simp (disch:=first|omega|assumption|rfl) only[go_sem,p0,q0,Nat.add_zero]
 refine Fn.mono (zca _ _ _ _ _ (a1.ext hE1) (b1.ext hE1) hoa.lb hob.lb (by have:=hoa.len;omega) (by have:=hob.len;omega)) ?_
 rintro _ w2 ⟨rfl,hE2⟩
 try simp only[go_sem]
 refine hK _ _ ?_;clear hK hgd;clear K;try clear gd
 repeat refine c_r ?_
 refine rg0 ?_
 repeat refine c_r ?_
 refine wc0 ?_ ?_
 ·intro hne
  simp only[Bool.not_eq_true',decide_eq_false_iff_not]at hne
  have hne':¬zci a.owner b.owner=0:=hne
  repeat (first|refine c_r ?_|refine rg0 ?_)
  refine rt0 Tryz.ntmps165 ?_
  exact⟨by rw[zgD,if_neg hne'];rfl,hE1.trans hE2⟩
 ·intro heq
  simp only[Bool.not_eq_false',decide_eq_true_eq]at heq
  have heq':zci a.owner b.owner=0:=heq
  have p5:zaw w2 (some ⟨w.heap.size,2,Option.none⟩) 5=some [vi a.dat.ty,nm,nu,tx,rw']:=zaE (hE2.at hA) (Nat.le_refl 7)
  have q5:zaw w2 (some ⟨w.heap.size+1,2,Option.none⟩) 5=some [vi b.dat.ty,nm2,nu2,tx2,rw2]:=zaE (hE2.at hB) (Nat.le_refl 7)
  repeat refine c_r ?_
  refine rq ?_;intro gd K hgd hK
  try simp (disch:=first|omega|assumption|rfl) only[go_sem,p5,q5,Nat.add_zero]
  refine Fn.mono (zfj _ _ _ a.dat b.dat (a2'.ext (hE1.trans hE2)) (b2'.ext (hE1.trans hE2)) hoa.dat hob.dat) ?_
  rintro _ w3 ⟨rfl,hE3⟩
  try simp only[go_sem]
  refine hK _ _ ?_;clear hK hgd;clear K;try clear gd
  repeat refine c_r ?_
  refine rt0 Tryz.ntmps165 ?_
  exact⟨by rw[zgD,if_pos heq'],(hE1.trans hE2).trans hE3⟩
theorem zhy(w:World)(ca cb:List Value)(a b:RecL)(ha:RecAt w ca a)(hb:RecAt w cb b)(hoa:zcw a)(hob:zcw b):
  Fn Tryz.prog 166 #[.agg ca.toArray,.agg cb.toArray] w (fun v w'=>v= .bool (decide (zaJ a b=0))∧Ext w w'):=by
 have ha':=ha
 have hb':=hb
 obtain⟨ow,ds,rfl,a1,a2⟩:=ha.ex
 obtain⟨ow2,ds2,rfl,b1,b2⟩:=hb.ex
 obtain⟨nm,nu,tx,rw',rfl,_⟩:=a2.ex
 obtain⟨nm2,nu2,tx2,rw2,rfl,_⟩:=b2.ex
 refine enter Tryz.func166 Tryz.ntmps166 rfl rfl ?_
 repeat refine c_r ?_
 refine rg0 ?_
 repeat refine c_r ?_
 rw[zap]
 refine zbP ?_
 intro w1 hE1 hs1 hA hB
 have p:=ze7 (n:=7) hA rfl
 have q:=ze7 (n:=7) hB rfl
 refine rq ?_;intro gd K hgd hK
 try simp (disch:=first|omega|assumption|rfl) only[go_sem,p,q]
 refine Fn.mono (zdt _ _ _ a b (ha'.ext hE1) (hb'.ext hE1) hoa hob) ?_
 rintro _ w2 ⟨rfl,hE2⟩
 try simp only[go_sem]
 refine hK _ _ ?_;clear hK hgd;clear K;try clear gd
 repeat refine c_r ?_
 refine rt0 Tryz.ntmps166 ?_
 exact⟨rfl,hE1.trans hE2⟩
section
variable {α : Type} {cf : α → α → Int} {jn : α → α → α}
def tst(O:List α)(k:Nat)(p:α→Bool):Bool:=match O[k]? with
 |some x=>p x
 |Option.none=>false
theorem zcM{O:List α}{k:Nat}(h:k<O.length)(p:α→Bool):tst O k p=p O[k]:=by unfold tst;rw[List.getElem?_eq_getElem h]
theorem zcP{O:List α}{k:Nat}(h:¬k<O.length)(p:α→Bool):tst O k p=false:=by unfold tst;rw[List.getElem?_eq_none (by omega)]
theorem zfN{r:α}:∀{O:List α} {k:Nat} (hk:k<O.length),(∀j (h:j<O.length),j<k→cf O[j] r<0)→cf O[k] r=0→putC cf jn r O=O.set k (jn O[k] r)
 | [],_,h,_,_=>absurd h (by simp)
 |x::O,0,_,_,h0=>by
  have h0':cf x r=0:=h0
  simp only[putC]
  rw[if_neg (by omega),if_pos h0'];rfl
 |x::O,k+1,hk,h,h0=>by
  have hx:cf x r<0:=h 0 (by simp) (by omega)
  have ih:=zfN (r:=r) (O:=O) (k:=k) (by simpa using hk) (fun j hj hjk=>h (j+1) (by simpa using hj) (by omega)) h0
  simp only[putC]
  rw[if_pos hx,ih];rfl
theorem zeM{r:α}:∀{O:List α} {k:Nat},k≤O.length→(∀j (h:j<O.length),j<k→cf O[j] r<0)→(∀h:k<O.length,¬cf O[k] r<0∧¬cf O[k] r=0)→putC cf jn r O=O.take k++ [r]++O.drop k
 | [],k,h,_,_=>by
  have:k=0:=by simpa using h
  subst this;rfl
 |x::O,0,_,_,hn=>by
  obtain⟨h1,h2⟩:=hn (by simp)
  have h1':¬cf x r<0:=h1
  have h2':¬cf x r=0:=h2
  simp only[putC]
  rw[if_neg h1',if_neg h2'];rfl
 |x::O,k+1,hk,h,hn=>by
  have hx:cf x r<0:=h 0 (by simp) (by omega)
  have ih:=zeM (r:=r) (O:=O) (k:=k) (by simpa using hk) (fun j hj hjk=>h (j+1) (by simpa using hj) (by omega)) (fun h=>hn (by simpa using h))
  simp only[putC]
  rw[if_pos hx,ih];rfl
end
theorem zbk(w:World):zfq 7 (RecAt w):=⟨fun h=>h.len,fun h=>h.ones⟩
theorem RecAt.ttl{w:World}{cs:List Value}{r:RecL}(h:RecAt w cs r):cs[1]? =some (v32 r.ttl):=by
 obtain⟨ow,ds,rfl,_⟩:=h.ex
 rfl
theorem zkC(w0 w:World)(hE0:Ext w0 w){v:Value}{R:List RecL}(hR:Rows 7 (RecAt w0) w v R)(hok:∀r∈R,zcw r)(hlen:R.length≤1000000000):
  Fn Tryz.prog 117 #[v] w (fun u w'=>Owns 7 (RecAt w0) w.heap.size w' 210 u (zbB R)∧Ext w w'):=by
 obtain⟨aR,cR,rfl,hcR,hgR⟩:=hR.open
 refine enter Tryz.func117 Tryz.ntmps117 rfl rfl ?_
 repeat refine c_r ?_
 refine rg0 ?_
 repeat refine c_r ?_
 refine rg0 ?_
 repeat refine c_r ?_
 refine rg0 ?_
 repeat refine c_r ?_
 refine zai (fun m σ ds A=>ds=[]∧∃(i:Nat) (vO:Value) (O:List RecL),i+m=R.length∧σ 4=vi i∧σ 0= .slice aR R.length cR∧σ 3=vO∧Owns 7 (RecAt w0) w.heap.size A 210 vO O∧O=zcb zaJ minT (fun x:RecL=>x) (R.take i) []∧Ext w A∧(∀o∈O,zcw o)∧O.length≤i) R.length ?_ ?_
 ·exact⟨rfl,0,_,[],by omega,vr0,vq0,vq0,Owns.nil _ _ _ _ _,rfl,Keep.refl _ _,fun o h=>absurd h (by simp),by simp⟩
 rintro m σ ds A ⟨rfl,i,vO,O,him,h4,h0,h3,hO,hOf,hEA,hOok,hOi⟩
 repeat refine c_r ?_
 refine rg2 h4 h0 ?_
 repeat refine c_r ?_
 refine wc0 ?_ ?_
 ·intro hlt
  simp only[decide_eq_true_eq]at hlt
  have hiR:i<R.length:=by omega
  have hi0:(0:Int)≤(i:Int):=by omega
  have hi1:(i:Int)<(R.length:Int):=by omega
  have hi1':(i:Int)+1=((i+1:Nat):Int):=by push_cast;rfl
  obtain⟨cr,hcr,hRr⟩:=hgR i hiR
  obtain⟨r,hr⟩:∃r,R[i]=r:=⟨_,rfl⟩
  rw[hr]at hRr
  have hrok:zcw r:=hr▸hok _ (List.getElem_mem hiR)
  obtain⟨xR,rfl⟩:=Option.isSome_iff_exists.1 (zan hcr)
  have hf1:zcb zaJ minT (fun x:RecL=>x) (R.take (i+1)) []=putC zaJ minT r O:=by
   rw[zak hiR,hr,hOf];unfold zcb;rw[List.foldl_append];rfl
  have hn3:∀o∈putC zaJ minT r O,zcw o:=zcC (fun x hx _=>⟨hx.lb,hx.len,hx.dat⟩) hrok hOok
  obtain⟨aO,cO,hvO,hcO,hgO⟩:=hO.rows.open
  rw[hvO]at h3 hO
  clear hvO
  repeat refine c_r ?_
  refine rg0 ?_
  repeat refine c_r ?_
  refine zai (fun m2 σ2 ds2 A2=>ds2=[]∧∃(k:Nat),k+m2=O.length∧σ2 5=vi k∧σ2 4=vi i∧σ2 0= .slice (some xR) R.length cR∧σ2 3= .slice aO O.length cO∧Ext A A2∧∀j (h:j<O.length),j<k→zaJ O[j] r<0) O.length ?_ ?_
  ·exact⟨rfl,0,by omega,vr0,(vq1 h4),(vq1 h0),(vq1 h3),Keep.refl _ _,fun j h hj=>absurd hj (by omega)⟩
  clear h3 h4 h0
  rintro m2 σ ds A2 ⟨rfl,k,hkm,h5,h4,h0,h3,hE2,hlow⟩
  repeat refine c_r ?_
  refine zax (Q:=fun e σ' ds' v'=>e= .normal∧ds'=[]∧σ' 5=vi k∧σ' 4=vi i∧σ' 0= .slice (some xR) R.length cR∧σ' 3= .slice aO O.length cO∧Ext A2 v'∧σ' 28= .bool (tst O k fun x=>decide (zaJ x r<0))) ?_ ?_
  ·by_cases hk:k<O.length
   ·rw[zcM hk]
    obtain⟨ck,hck,hRk⟩:=hgO k hk
    obtain⟨xO,rfl⟩:=Option.isSome_iff_exists.1 (zan hck)
    have hkd:decide ((k:Int)<(O.length:Int))=true:=decide_eq_true (by omega)
    have hk0:(0:Int)≤(k:Int):=by omega
    have hk1:(k:Int)<(O.length:Int):=by omega
    refine zaL (fun _=>false) [(0,true),(1,true),(2,true),(3,true),(4,true),(5,true),(6,true),(7,true),(8,true),(9,true),(10,true),(11,true),(12,true),(13,false),(14,true),(15,true)] NoS mixed (by kernel_rfl) ?_;intro gd K x hgd hx hxe hK;clear hxe
    have hg4:∀n σ b,zas gd n σ (some (4,b))=zaj (ev n σ (.tmp 17)) b:=(fun n σ b=>by rw[zab,show gd 4=some 17 from(by rw[hgd];rfl)];rfl)
    have d1:=zaf (hE2.trans hx) hck
    have d2:=zaf ((hEA.trans hE2).trans hx) hcr
    simp (disch:=first|omega|assumption|rfl) only[go_sem,h5,h4,h0,h3,hkd,decide_true,hk0,hk1,hi0,hi1,d1,d2,↓hg4]
    refine Fn.mono (zdt x _ _ O[k] r (hRk.ext (((hE0.trans hEA).trans hE2).trans hx)) (hRr.ext (((hE0.trans hEA).trans hE2).trans hx)) (hOok _ (List.getElem_mem hk)) hrok) ?_
    rintro _ x2 ⟨rfl,hx2⟩
    refine⟨.inr hx2,?_⟩
    simp (disch:=first|omega|assumption|rfl) only[go_sem,↓hg4]
    refine hK _ _ ?_;clear hK hgd;clear K;try clear gd
    exact⟨rfl,rfl,(vq1 h5),(vq1 h4),(vq1 h0),(vq1 h3),hx.trans hx2,vq0⟩
   ·rw[zcP hk]
    have hkd:decide ((k:Int)<(O.length:Int))=false:=decide_eq_false (by omega)
    refine zaL (fun _=>false) [(0,true),(1,true),(2,true),(3,true),(4,true),(5,true),(6,true),(7,true),(8,true),(9,true),(10,true),(11,true),(12,true),(13,false),(14,true),(15,true)] NoS mixed (by kernel_rfl) ?_;intro gd K x hgd hx hxe hK;clear hxe
    have hg4:∀n σ b,zas gd n σ (some (4,b))=zaj (ev n σ (.tmp 17)) b:=(fun n σ b=>by rw[zab,show gd 4=some 17 from(by rw[hgd];rfl)];rfl)
    simp (disch:=first|omega|assumption|rfl) only[go_sem,h5,h4,h0,h3,hkd,↓hg4]
    refine hK _ _ ?_;clear hK hgd;clear K;try clear gd
    exact⟨rfl,rfl,(vq1 h5),(vq1 h4),(vq1 h0),(vq1 h3),hx,vq0⟩
  clear h5 h4 h0 h3
  rintro _ σ1 _ A3 ⟨rfl,rfl,h5,h4,h0,h3,hE3,h28⟩
  repeat refine c_r ?_
  refine zaO (t:=tst O k fun x=>decide (zaJ x r<0)) ((vq1 h28)) ?_ ?_
  ·intro ht
   have hk:k<O.length:=Classical.byContradiction fun h=>by rw[zcP h]at ht;cases ht
   rw[zcM hk,decide_eq_true_eq]at ht
   have hk1':(k:Int)+1=((k+1:Nat):Int):=by push_cast;rfl
   repeat refine c_r ?_
   refine rg2 h5 hk1' ?_
   repeat refine c_r ?_
   refine⟨m2 - 1,by omega,rfl,k+1,by omega,vq0,(vq1 h4),(vq1 h0),(vq1 h3),hE2.trans hE3,fun j hj hjk=>?_⟩
   by_cases hj2:j=k
   ·subst hj2;exact ht
   ·exact hlow j hj (by omega)
  intro ht
  have hstop:∀h:k<O.length,¬zaJ O[k] r<0:=fun h h2=>by
   rw[zcM h]at ht
   exact of_decide_eq_false ht h2
  have hkO:k≤O.length:=by omega
  have hE23:=hE2.trans hE3
  clear h28 ht hE3 hE2
  repeat refine c_r ?_
  have hEA3:=hEA.trans hE23
  have hO3:=hO.ext hE23
  refine zax (Q:=fun e σ' ds' v'=>e= .normal∧ds'=[]∧σ' 5=vi k∧σ' 4=vi i∧σ' 0= .slice (some xR) R.length cR∧σ' 3= .slice aO O.length cO∧Ext A3 v'∧σ' 45= .bool (tst O k fun x=>decide (zaJ x r=0))) ?_ ?_
  ·by_cases hk:k<O.length
   ·rw[zcM hk]
    obtain⟨ck,hck,hRk⟩:=hgO k hk
    obtain⟨xO,rfl⟩:=Option.isSome_iff_exists.1 (zan hck)
    have hkd:decide ((k:Int)<(O.length:Int))=true:=decide_eq_true (by omega)
    have hk0:(0:Int)≤(k:Int):=by omega
    have hk1:(k:Int)<(O.length:Int):=by omega
    refine zaL (fun _=>false) [(0,true),(1,true),(2,true),(3,true),(4,true),(5,true),(6,true),(7,true),(8,true),(9,true),(10,true),(11,true),(12,true),(13,false),(14,true)] NoS mixed (by kernel_rfl) ?_;intro gd K x hgd hx hxe hK;clear hxe
    have hg4:∀n σ b,zas gd n σ (some (4,b))=zaj (ev n σ (.tmp 35)) b:=(fun n σ b=>by rw[zab,show gd 4=some 35 from(by rw[hgd];rfl)];rfl)
    have d1:=zaf (hE23.trans hx) hck
    have d2:=zaf (hEA3.trans hx) hcr
    simp (disch:=first|omega|assumption|rfl) only[go_sem,h5,h4,h0,h3,hkd,decide_true,hk0,hk1,hi0,hi1,d1,d2,↓hg4]
    refine Fn.mono (zhy x _ _ O[k] r (hRk.ext ((hE0.trans hEA3).trans hx)) (hRr.ext ((hE0.trans hEA3).trans hx)) (hOok _ (List.getElem_mem hk)) hrok) ?_
    rintro _ x2 ⟨rfl,hx2⟩
    refine⟨.inr hx2,?_⟩
    simp (disch:=first|omega|assumption|rfl) only[go_sem,↓hg4]
    refine hK _ _ ?_;clear hK hgd;clear K;try clear gd
    exact⟨rfl,rfl,(vq1 h5),(vq1 h4),(vq1 h0),(vq1 h3),hx.trans hx2,vq0⟩
   ·rw[zcP hk]
    have hkd:decide ((k:Int)<(O.length:Int))=false:=decide_eq_false (by omega)
    refine zaL (fun _=>false) [(0,true),(1,true),(2,true),(3,true),(4,true),(5,true),(6,true),(7,true),(8,true),(9,true),(10,true),(11,true),(12,true),(13,false),(14,true)] NoS mixed (by kernel_rfl) ?_;intro gd K x hgd hx hxe hK;clear hxe
    have hg4:∀n σ b,zas gd n σ (some (4,b))=zaj (ev n σ (.tmp 35)) b:=(fun n σ b=>by rw[zab,show gd 4=some 35 from(by rw[hgd];rfl)];rfl)
    simp (disch:=first|omega|assumption|rfl) only[go_sem,h5,h4,h0,h3,hkd,↓hg4]
    refine hK _ _ ?_;clear hK hgd;clear K;try clear gd
    exact⟨rfl,rfl,(vq1 h5),(vq1 h4),(vq1 h0),(vq1 h3),hx,vq0⟩
  clear h5 h4 h0 h3
  rintro _ σ1 _ A4 ⟨rfl,rfl,h5,h4,h0,h3,hE4,h45⟩
  have hEA4:=hEA3.trans hE4
  have hO4:=hO3.ext hE4
  repeat refine c_r ?_
  refine zaO (t:=tst O k fun x=>decide (zaJ x r=0)) ((vq1 h45)) ?_ ?_
  ·intro ht
   have hk:k<O.length:=Classical.byContradiction fun h=>by rw[zcP h]at ht;cases ht
   rw[zcM hk,decide_eq_true_eq]at ht
   have hput:=zfN (jn:=minT) hk hlow ht
   obtain⟨ck,hck,hRk⟩:=hgO k hk
   obtain⟨xO,rfl⟩:=Option.isSome_iff_exists.1 (zan hck)
   have hk0:(0:Int)≤(k:Int):=by omega
   have hk1:(k:Int)<(O.length:Int):=by omega
   rcases hO4.cases with ⟨hv0,_⟩| ⟨b,cap,LO,hvb,hbB,hbc,hbm,hSD,hLl,hLat⟩
   ·cases hv0
   have hxb:xO=⟨b,0,Option.none⟩:=by injection hvb with e;injection e
   have hcap:cO=cap:=by injection hvb
   subst hxb hcap
   have hgk:=hSD.get (j:=k) (by omega)
   have hRk:=hLat k (by omega) hk
   have f1:zah A4 (some ⟨b,k*7+1,Option.none⟩)=some (v32 (O[k]).ttl):=by
    have h1:=zdh hgk (j:=1) (by rw[hRk.len];omega)
    have h2:=hRk.ttl
    rw[List.getElem?_eq_getElem (by rw[hRk.len];omega)]at h2
    rw[Option.some.inj h2]at h1;exact h1
   have f2:zah A4 (adr (adr (some xR) (i*7)) 1)=some (v32 r.ttl):=by
    have h1:=zdh (zaf hEA4 hcr) (j:=1) (by rw[hRr.len];omega)
    have h2:=hRr.ttl
    rw[List.getElem?_eq_getElem (by rw[hRr.len];omega)]at h2
    rw[Option.some.inj h2]at h1;exact h1
   obtain⟨xi,hxi⟩:∃xi,adr (some xR) (i*7)=some xi:=⟨_,rfl⟩
   rw[hxi]at f2
   repeat refine c_r ?_
   refine zaL (fun _=>false) [(0,true),(1,true),(2,true),(3,true),(4,true),(5,true),(6,true),(7,true),(8,true),(9,true),(10,true)] NoS mixed (by kernel_rfl) ?_;intro gd K x hgd hx hxe hK;clear hxe
   have f1':=zaa hx f1
   have f2':=zaa hx f2
   simp (disch:=first|omega|assumption|rfl) only[go_sem,h5,h4,h0,h3,hk0,hk1,hi0,hi1,f1',f2',hxi,Nat.zero_add]
   refine hK _ _ ?_;clear hK hgd;clear K;try clear gd
   repeat refine c_r ?_
   have hnext:∀{v'},Ext w v'→SD 7 v' b 210 cO (LO.set k (LO[k].set 1 (v32 (min O[k].ttl r.ttl))))→Owns 7 (RecAt w0) w.heap.size v' 210 (.slice (some ⟨b,0,Option.none⟩) O.length cO) (putC zaJ minT r O):=fun {v'} _ hD=>by
    rw[hput]
    have:=Owns.of_sd (C:=RecAt w0) (xs:=O.set k (minT O[k] r)) hD hbB (by simpa using hbc) hbm (by simp[hLl]) (all_set hLl hLat hRk.minT)
    simpa using this
   refine wc0 ?_ ?_
   ·intro hlt2
    simp only[decide_eq_true_eq]at hlt2
    have hmin:min O[k].ttl r.ttl=r.ttl:=Int.min_eq_right (by omega)
    rw[hmin]at hnext
    repeat refine c_r ?_
    refine rq ?_;intro gd K hgd hK
    have g2:=zaa hx f2
    try simp (disch:=first|omega|assumption|rfl) only[go_sem,h5,h4,h0,h3,hk0,hk1,hi0,hi1,g2,hxi,Nat.zero_add]
    refine SD.setAt (P:=Tryz.prog) (t:=199) (hSD.ext hx) (j:=k) (i:=1) (by omega) (by decide) rfl rfl rfl ?_
    intro v4 hv4 hL4 hk4
    try simp only[go_sem]
    refine hK _ _ ?_;clear hK hgd;clear K;try clear gd
    have hE5:Ext w v4:=Keep.to_ext (hEA4.trans hx) rfl (fun i hi=>by omega) hk4
    repeat refine c_r ?_
    refine rg2 h4 hi1' ?_
    repeat refine c_r ?_
    exact⟨m - 1,by omega,rfl,i+1,_,_,by omega,vq0,(vq1 h0),(vq1 h3),hnext hE5 hL4,hf1.symm,hE5,hn3,by rw[hput];simp;omega⟩
   ·intro hlt2
    simp only[decide_eq_false_iff_not]at hlt2
    have hmin:min O[k].ttl r.ttl=O[k].ttl:=Int.min_eq_left (by omega)
    rw[hmin]at hnext
    have hsame:LO[k].set 1 (v32 O[k].ttl)=LO[k]:=by
     have h2:=hRk.ttl
     apply List.ext_getElem?
     intro j
     rw[List.getElem?_set]
     split
     ·rename_i hj;subst hj
      rw[if_pos (by rw[hRk.len];omega),h2]
     ·rfl
    rw[hsame,List.set_getElem_self]at hnext
    repeat refine c_r ?_
    refine rg2 h4 hi1' ?_
    repeat refine c_r ?_
    exact⟨m - 1,by omega,rfl,i+1,_,_,by omega,vq0,(vq1 h0),(vq1 h3),hnext (hEA4.trans hx) (hSD.ext hx),hf1.symm,hEA4.trans hx,hn3,by rw[hput];simp;omega⟩
  ·intro ht
   have hmiss:∀h:k<O.length,¬zaJ O[k] r<0∧¬zaJ O[k] r=0:=fun h=>by
    rw[zcM h,decide_eq_false_iff_not]at ht
    exact⟨hstop h,ht⟩
   have hput:=zeM (jn:=minT) hkO hlow hmiss
   have hk0:(0:Int)≤(k:Int):=by omega
   have hk1:(k:Int)≤(O.length:Int):=by omega
   have hcutlo:=hO4.rows.cut (lo:=0) (hi:=k) (by omega) hkO
   have hcuthi:=hO4.rows.cut (lo:=k) (hi:=O.length) hkO (Nat.le_refl _)
   rw[List.drop_zero,Nat.sub_zero]at hcutlo
   rw[List.take_of_length_le (by simp)]at hcuthi
   repeat refine c_r ?_
   refine zax (Q:=fun e σ' ds' v'=>e= .normal∧ds'=[]∧σ' 5=vi k∧σ' 4=vi i∧σ' 0= .slice (some xR) R.length cR∧σ' 3= .slice aO O.length cO∧Ext A4 v'∧∃xv,σ' 6=xv∧Owns 7 (RecAt w0) A4.heap.size v' 210 xv (O.take k++ [r])) ?_ ?_
   ·refine zgM (fun _=>false) (.run [(1,true),(2,true),(3,true),(5,true),(6,true),(7,true),(8,true)] (.fork 4 [0,9] (fun i=>if i=0 then(.run [] (.fork 3 [4,9] (fun i=>if i=4 then(.run [(9,false),(10,false),(11,true)] .fin) else(.run [(4,false),(10,false),(11,true)] .fin)))) else(.run [(0,false),(4,false),(10,false),(11,true)] .fin)))) (zc5 A4.heap.size) mixed (by kernel_rfl) ?_;intro gd K x hgd hx hxe hK;clear hxe
    have hx0:Ext A4 x:=⟨hx.os,hx.tape,hx.output,hx.size,fun b hb _=>hx.block b hb (by unfold zc5;omega),hx.drawn⟩
    have hxs:=hx.size
    have d2:=zaf (hEA4.trans hx0) hcr
    simp (disch:=first|omega|assumption|rfl) only[go_sem,h5,h4,h0,h3,hk0,hk1,hi0,hi1,d2]
    refine⟨fun a ha hb=>by have:=cells_lt hcr (by decide) ha;have:=hEA4.size;unfold zc5 at hb;omega,?_⟩
    simp only[zbE,zbY];refine⟨?_,?_⟩
    ·simp (disch:=first|omega|assumption|rfl) only[go_sem]
     refine zf0 (k:=7) (C:=RecAt w0) rfl rfl rfl rfl ?_
     intro w3 hE3 hs3 ho3
     refine⟨.inr hE3.keep,?_⟩
     simp (disch:=first|omega|assumption|rfl) only[go_sem]
     simp only[zbE,zbY];refine⟨?_,?_⟩
     ·simp (disch:=first|omega|assumption|rfl) only[go_sem]
      refine zaQ (zbk w0) ho3 (hcutlo.ext (hx0.trans hE3)) rfl rfl rfl rfl rfl rfl (by decide) (vr0) (vr0) (by simp;omega) (by decide) (by omega) ?_
      intro v4 w4 ho4 hE4' hk4 _
      refine⟨.inr (hk4.mono fun b _ hb=>by have:=(ho3.ge hb).1;show _≤_;omega),?_⟩
      have hE4'':=hE4' _ hE3 (Nat.le_refl _)
      have hs4:=hk4.size
      simp (disch:=first|omega|assumption|rfl) only[go_sem]
      refine zbC (zbk w0) rfl rfl rfl rfl hRr (by decide) ?_
      intro w5 hE5 hs5 ho5
      refine⟨.inr hE5.keep,?_⟩
      simp (disch:=first|omega|assumption|rfl) only[go_sem]
      refine zaQ (zbk w0) (ho4.ext hE5) ho5.rows rfl rfl rfl rfl rfl rfl (by decide) (vr0) (vr0) (by simp;omega) (by decide) (by omega) ?_
      intro v6 w6 ho6 hE6 hk6 _
      refine⟨.inr (hk6.mono fun b _ hb=>by have:=(ho4.ge hb).1;show _≤_;omega),?_⟩
      simp (disch:=first|omega|assumption|rfl) only[go_sem]
      refine hK _ _ ⟨rfl,rfl,(vq1 h5),(vq1 h4),(vq1 h0),(vq1 h3),hx0.trans (hE6 _ (hE4''.trans hE5) (Nat.le_refl _)),_,by simp only[go_sem];rfl,?_⟩
      exact ho6.mono hxs
     ·simp (disch:=first|omega|assumption|rfl) only[go_sem]
      refine zbC (zbk w0) rfl rfl rfl rfl hRr (by decide) ?_
      intro w5 hE5 hs5 ho5
      refine⟨.inr hE5.keep,?_⟩
      simp (disch:=first|omega|assumption|rfl) only[go_sem]
      refine zaQ (zbk w0) (ho3.ext hE5) (hcutlo.ext ((hx0.trans hE3).trans hE5)) rfl rfl rfl rfl rfl rfl (by decide) (vr0) (vr0) (by simp;omega) (by decide) (by omega) ?_
      intro v4 w4 ho4 hE4' hk4 _
      have hs4:=hk4.size
      refine⟨.inr (hk4.mono fun b _ hb=>by have:=(ho3.ge hb).1;show _≤_;omega),?_⟩
      have ho5':=ho5.keep hk4 (fun b hb hb2=>by have:=(ho5.ge hb).1;have:=(ho3.ge hb2).2;omega)
      simp (disch:=first|omega|assumption|rfl) only[go_sem]
      refine zaQ (zbk w0) ho4 ho5'.rows rfl rfl rfl rfl rfl rfl (by decide) (vr0) (vr0) (by simp;omega) (by decide) (by omega) ?_
      intro v6 w6 ho6 hE6 hk6 _
      refine⟨.inr (hk6.mono fun b _ hb=>by have:=(ho4.ge hb).1;show _≤_;omega),?_⟩
      simp (disch:=first|omega|assumption|rfl) only[go_sem]
      refine hK _ _ ⟨rfl,rfl,(vq1 h5),(vq1 h4),(vq1 h0),(vq1 h3),hx0.trans (hE6 _ (hE4' _ (hE3.trans hE5) (Nat.le_refl _)) (Nat.le_refl _)),_,by simp only[go_sem];rfl,?_⟩
      exact ho6.mono hxs
    ·simp (disch:=first|omega|assumption|rfl) only[go_sem]
     refine zbC (zbk w0) rfl rfl rfl rfl hRr (by decide) ?_
     intro w5 hE5 hs5 ho5
     refine⟨.inr hE5.keep,?_⟩
     simp (disch:=first|omega|assumption|rfl) only[go_sem]
     refine zf0 (k:=7) (C:=RecAt w0) rfl rfl rfl rfl ?_
     intro w3 hE3 hs3 ho3
     refine⟨.inr hE3.keep,?_⟩
     simp (disch:=first|omega|assumption|rfl) only[go_sem]
     refine zaQ (zbk w0) ho3 (hcutlo.ext ((hx0.trans hE5).trans hE3)) rfl rfl rfl rfl rfl rfl (by decide) (vr0) (vr0) (by simp;omega) (by decide) (by omega) ?_
     intro v4 w4 ho4 hE4' hk4 _
     refine⟨.inr (hk4.mono fun b _ hb=>by have:=(ho3.ge hb).1;show _≤_;omega),?_⟩
     have hE4'':=hE4' _ hE3 (Nat.le_refl _)
     have hs4:=hk4.size
     simp (disch:=first|omega|assumption|rfl) only[go_sem]
     refine zaQ (zbk w0) ho4 (ho5.ext hE4'').rows rfl rfl rfl rfl rfl rfl (by decide) (vr0) (vr0) (by simp;omega) (by decide) (by omega) ?_
     intro v6 w6 ho6 hE6 hk6 _
     refine⟨.inr (hk6.mono fun b _ hb=>by have:=(ho4.ge hb).1;show _≤_;omega),?_⟩
     simp (disch:=first|omega|assumption|rfl) only[go_sem]
     refine hK _ _ ⟨rfl,rfl,(vq1 h5),(vq1 h4),(vq1 h0),(vq1 h3),hx0.trans (hE6 _ (hE5.trans hE4'') (by omega)),_,by simp only[go_sem];rfl,?_⟩
     exact ho6.mono (by omega)
   clear h5 h4 h0 h3
   rintro _ σ6 _ v6 ⟨rfl,rfl,h5,h4,h0,h3,hE6,xv,h6,hox⟩
   repeat refine c_r ?_
   refine rq ?_;intro gd K hgd hK
   try simp (disch:=first|omega|assumption|rfl) only[go_sem,h5,h4,h0,h3,h6,hk0,hk1]
   refine zaQ (zbk w0) hox (hcuthi.ext hE6) rfl rfl rfl rfl rfl rfl (by decide) ((vq1 h6)) (vr0) (by simp;omega) (by decide) hE6.size ?_
   intro v7 w7 ho7 hE7 _ _
   have hE7':=hE7 _ hE6 (Nat.le_refl _)
   try simp only[go_sem]
   refine hK _ _ ?_;clear hK hgd;clear K;try clear gd
   repeat refine c_r ?_
   refine rg2 h4 hi1' ?_
   repeat refine c_r ?_
   exact⟨m - 1,by omega,rfl,i+1,v7,putC zaJ minT r O,by omega,vq0,(vq1 h0),vq0,by rw[hput];exact ho7.mono hEA4.size,hf1.symm,hEA4.trans hE7',hn3,by rw[hput];simp;omega⟩
 ·intro hge
  simp only[decide_eq_false_iff_not]at hge
  have hiR:i=R.length:=by omega
  rw[hiR,List.take_length]at hOf
  repeat refine c_r ?_
  refine rg1 h3 ?_
  repeat refine c_r ?_
  refine rt1 h3 Tryz.ntmps117 ?_
  have hfin:O=zbB R:=hOf
  rw[←hfin]
  exact⟨hO,hEA⟩
end Go.Proofs.YtahbdamijngmmaaGreat
namespace Go.Proofs.YtahbdamijngmmaaGreat.P_cd
open Go Go.Proofs.YtahbdamijngmmaaGreat
set_option maxRecDepth 10000
theorem Clip_ok{w:World}{a:Option Addr}{n c:Nat}(hc:n≤c):Fn Tryz.prog 283 #[.slice a n c] w (fun u w'=>u= .slice a n n∧w'=w):=by
 refine enter Tryz.func283 Tryz.ntmps283 rfl rfl ?_
 repeat refine c_r ?_
 refine rg0 ?_
 repeat refine c_r ?_
 refine rq ?_;intro gd K hgd hK
 try simp only[go_sem]
 have hcl:slD Tryz.prog (some (TypeDesc.slice 197)) (Value.slice a n c) Option.none (some (Value.int IntKind.i64 ↑n)) (some (Value.int IntKind.i64 ↑n))=some (.slice a n n):=zds hc (by rfl)
 rw[hcl]
 try simp only[go_sem]
 refine hK _ _ ?_;clear hK hgd;clear K;try clear gd
 repeat refine c_r ?_
 refine rt0 Tryz.ntmps283 ?_
 exact⟨rfl,rfl⟩
end Go.Proofs.YtahbdamijngmmaaGreat.P_cd
namespace Go.Proofs.YtahbdamijngmmaaGreat
open Go
set_option maxRecDepth 10000
theorem RecAt.cells{w0:World}{cs:List Value}{r:RecL}(h:RecAt w0 cs r):∃ow ds,cs=[ow,v32 r.ttl]++ds∧Row w0 ow (r.owner.map vs)∧DatAt w0 ds r.dat∧cs[0]? =some ow∧cs[1]? =some (v32 r.ttl)∧cs[2]? =some (vi r.dat.ty)∧cs.drop 2=ds:=by
 obtain⟨ow,ds,rfl,h1,h2⟩:=h.ex
 obtain⟨nm,nu,tx,rw',rfl,_⟩:=h2.ex
 exact⟨ow,_,rfl,h1,h2,rfl,rfl,rfl,rfl⟩
theorem W_alloc3{P:Program}{w:World}{f:Option Nat}{n:Nat}{c:Code}{Q:Post}{σ:Sto}{ds:List Deferred}{A B C:Obj}(h:∀w1,Ext w w1→w1.heap.size=w.heap.size+3→w1.heap[w.heap.size]? =some A→w1.heap[w.heap.size+1]? =some B→w1.heap[w.heap.size+1+1]? =some C→W P f n c Q σ ds w1):W P f n c Q σ ds (((w.alloc A).alloc B).alloc C):=by
 obtain⟨h1,h2,h3,h4,h5⟩:=zff w A B C
 exact h _ h1 h2 h3 h4 h5
section
variable {P : Program} {n : Nat} {σ : Sto} {w : World} {l : List ResultVar} {r : List Value}
theorem zaz:resV P n σ w []=some []:=rfl
theorem zal{t:Tmp}{v:Value}(hv:ev n σ (.tmp t)=v)(h:resV P n σ w l=some r):resV P n σ w (.tmp t::l)=some (v::r):=by
 unfold resV
 rw[h,←hv];rfl
theorem zcB{a:Tmp}{t:TypeId}{x:Addr}{k:Nat}{cs:List Value}(hv:ev n σ (.tmp a)= .pointer (some x))(hA:tyA P t=true)(hk:tyS P t=k)(hc:zaw w (some x) k=some cs)(h:resV P n σ w l=some r):resV P n σ w (.cell a t::l)=some (.agg cs.toArray::r):=by
 subst hk
 unfold resV
 rw[show (if a<n then σ a else undef)= .pointer (some x) from hv]
 have:ldV P w t x=some (.agg cs.toArray):=by
  unfold ldV
  rw[hA,cond_true,show zaN w x 0 (tyS P t)=some cs from hc];rfl
 simp only[this,h]
theorem zjt{a:Tmp}{t:TypeId}{x:Addr}{v:Value}(hv:ev n σ (.tmp a)= .pointer (some x))(hA:tyA P t=false)(hU:(tyU P t).isSome=true)(hc:zah w (some x)=some v)(h:resV P n σ w l=some r):resV P n σ w (.cell a t::l)=some (v::r):=by
 unfold resV
 rw[show (if a<n then σ a else undef)= .pointer (some x) from hv]
 have:ldV P w t x=some v:=by
  unfold ldV
  rw[hA,cond_false,hU,cond_true];exact hc
 simp only[this,h]
theorem zaA{fn:Func}{R:Value→World→Prop}{e:Exit}(he:e= .normal∨e= .ret)(hm:fn.ntmps=n){rs:List ResultVar}(hl:fn.results.toList=rs)(hr:resV P n σ w rs=some r)(h:R (resT r) w):retQ P fn R e σ [] w:=by
 subst hm hl
 exact⟨he,trivial,r,hr,h⟩
theorem zhN{fn:Func}{R:Value→World→Prop}{e:Exit}{D:Nat}(he:e= .normal∨e= .ret)(hm:fn.ntmps=n){rs:List ResultVar}(hl:fn.results.toList=rs)(hD:w.heap[D]? =some (.deferred (some [])))
  (h:∀w',Keep (fun b=>b=D) w w'→w'.heap.size=w.heap.size→∃r,resV P n σ w' rs=some r∧R (resT r) w'):retQ P fn R e σ [{target:= .collected D,args:=#[]}] w:=by
 subst hm hl
 obtain⟨r,h1,h2⟩:=h (w.putObj D (.deferred Option.none)) (zaD rfl) (by simp)
 exact⟨he,⟨D,rfl,hD,trivial⟩,r,h1,h2⟩
end
theorem zjX{w0 w x:World}{n0:Nat}{C:Nat→Prop}(hE:Ext w0 w)(hk:KeepB n0 C w x)(hn:w0.heap.size≤n0)(hC:∀b,C b→w0.heap.size≤b):Ext w0 x:=
 ⟨hk.os.trans hE.os,hk.tape.trans hE.tape,hk.output.trans hE.output,Nat.le_trans hE.size hk.size,fun b hb h=>by
  rw[hk.block b (by omega) (fun h=>by have:=hC b h;omega)]
  exact hE.block b hb (fun h=>h),Nat.le_trans hE.drawn hk.drawn⟩
theorem zdA{n o:Nm}(h:za0 n o=true):o.length≤n.length:=by
 unfold za0 at h
 simp only[Bool.and_eq_true,decide_eq_true_eq]at h
 exact h.1
def encD(W0:World)(x:Nm)(_:World)(args:Array Value):Prop:=∃v,args=#[v]∧Row W0 v (x.map vs)
end Go.Proofs.YtahbdamijngmmaaGreat
namespace Go.Proofs.YtahbdamijngmmaaGreat.P_cs
open Go Go.Proofs.YtahbdamijngmmaaGreat
set_option maxRecDepth 10000
theorem Clip_ok{w:World}{a:Option Addr}{n c:Nat}(hc:n≤c):Fn Tryz.prog 73 #[.slice a n c] w (fun u w'=>u= .slice a n n∧w'=w):=by
 refine enter Tryz.func73 Tryz.ntmps73 rfl rfl ?_
 repeat refine c_r ?_
 refine rg0 ?_
 repeat refine c_r ?_
 refine rq ?_;intro gd K hgd hK
 try simp only[go_sem]
 have hcl:slD Tryz.prog (some (TypeDesc.slice 9)) (Value.slice a n c) Option.none (some (Value.int IntKind.i64 ↑n)) (some (Value.int IntKind.i64 ↑n))=some (.slice a n n):=zds hc (by rfl)
 rw[hcl]
 try simp only[go_sem]
 refine hK _ _ ?_;clear hK hgd;clear K;try clear gd
 repeat refine c_r ?_
 refine rt0 Tryz.ntmps73 ?_
 exact⟨rfl,rfl⟩
end Go.Proofs.YtahbdamijngmmaaGreat.P_cs
namespace Go.Proofs.YtahbdamijngmmaaGreat
open Go
set_option maxRecDepth 10000
theorem Own.blk{B:Nat}{w:World}{e:TypeId}{v:Value}{l:List Value}(h:Own B w e v l):BlkB B w v:=fun a n c hv=>(h.rowB).2 a n c hv
theorem zkL{w:World}{v:Value}{n:Nm}(hr:Row w v (n.map vs))(hlen:n.length≤1000000000000):
  Fn Tryz.prog 178 #[v] w (fun u w'=>Own w.heap.size w' 9 u (n.map vs)∧Ext w w'):=by
 have hr':=hr
 obtain⟨a,c,rfl,hc,hl⟩:=hr
 refine enter Tryz.func178 Tryz.ntmps178 rfl rfl ?_
 repeat refine c_r ?_
 refine rg0 ?_
 repeat refine c_r ?_
 refine rq ?_;intro gd K hgd hK
 try simp only[go_sem]
 refine zhk (by rfl) (by rfl) (by rfl) ?_
 try simp only[go_sem]
 refine hK _ _ ?_;clear hK hgd;clear K;try clear gd
 repeat refine c_r ?_
 cases a with
 |none=>
  have:n=[]:=by
   cases n with
   |nil=>rfl
   |cons x L=>have:=hl 0 (by simp);simp[zah,adr]at this
  subst this
  refine wc0 ?_ ?_
  ·intro _
   repeat refine c_r ?_
   refine rg0 ?_
   repeat refine c_r ?_
   refine rt0 Tryz.ntmps178 ?_
   exact⟨Own.nil _ _ _,Keep.refl _ _⟩
  ·intro h;cases h
 |some a=>
  refine wc0 ?_ ?_
  ·intro h;cases h
  intro _
  repeat refine c_r ?_
  refine rq ?_;intro gd K hgd hK
  try simp only[go_sem]
  refine zia (z:=vs []) (by rfl) (by rfl) (by rfl) (by rfl) ?_
  intro w1 hE1 hs1 ho1
  try simp only[go_sem]
  refine zbU (B:=w.heap.size) ho1 (hr'.ext hE1) (by rfl) (by rfl) (by rfl) (by rfl) (by rfl) (by rfl) (by rfl) (by rfl) (zd3 _) (by simp;omega) (by decide) (by omega) ?_
  intro v' w2 ho2 hE2 _ _
  try simp only[go_sem]
  refine hK _ _ ?_;clear hK hgd;clear K;try clear gd
  repeat refine c_r ?_
  refine rt0 Tryz.ntmps178 ?_
  exact⟨by simpa using ho2,hE2 w hE1 (Nat.le_refl _)⟩
theorem findL_at{α:Type}{p:α→Bool}{l pre suf:List α}{x:α}(h:l=pre++x::suf)(hp:∀y∈pre,p y=false)(hx:p x=true):l.find? p=some x:=by
 rw[h,List.find?_append]
 have:pre.find? p=Option.none:=by
  rw[List.find?_eq_none]
  intro y hy
  rw[hp y hy];exact Bool.false_ne_true
 rw[this]
 simp[hx]
theorem ziN{α:Type}{p:α→Bool}{l:List α}(hp:∀y∈l,p y=false):l.find? p=Option.none:=by
 rw[List.find?_eq_none]
 intro y hy
 rw[hp y hy];exact Bool.false_ne_true
def errL(l:Lab):Int:=if l=[] then 8 else if 63<l.length then 3 else 0
def lenN(n:Nm):Nat:=1+(n.map fun l=>1+l.length).sum
def zaH(n:Nm):Int:=match n.find? (fun l=>decide (errL l≠0)) with
 |some l=>errL l
 |Option.none=>if 255<lenN n then 3 else 0
theorem zkH(w:World)(l:Lab)(hl:l.length≤9000000000000000000):Fn Tryz.prog 124 #[vs l] w (fun v w'=>v=vi (errL l)∧Ext w w'):=by
 refine enter Tryz.func124 Tryz.ntmps124 rfl rfl ?_
 repeat refine c_r ?_
 refine rg0 ?_
 repeat refine c_r ?_
 refine rg0 ?_
 repeat refine c_r ?_
 refine wc0 ?_ ?_
 ·intro h
  simp only[decide_eq_true_eq]at h
  repeat (first|refine c_r ?_|refine rg0 ?_)
  refine rt0 Tryz.ntmps124 ?_
  exact⟨by unfold errL;rw[if_pos h],Keep.refl _ _⟩
 intro h
 simp only[decide_eq_false_iff_not]at h
 repeat refine c_r ?_
 refine rg0 ?_
 repeat refine c_r ?_
 refine wc0 ?_ ?_
 ·intro h2
  simp only[decide_eq_true_eq]at h2
  repeat (first|refine c_r ?_|refine rg0 ?_)
  refine rt0 Tryz.ntmps124 ?_
  exact⟨by unfold errL;rw[if_neg h,if_pos (by omega)],Keep.refl _ _⟩
 ·intro h2
  simp only[decide_eq_false_iff_not]at h2
  repeat (first|refine c_r ?_|refine rg0 ?_)
  refine rt0 Tryz.ntmps124 ?_
  exact⟨by unfold errL;rw[if_neg h,if_neg (by omega)],Keep.refl _ _⟩
theorem zfr(w:World)(l:Lab)(hl:l.length≤9000000000000000000):Fn Tryz.prog 98 #[vs l] w (fun v w'=>v=vi (errL l)∧Ext w w'):=by
 refine enter Tryz.func98 Tryz.ntmps98 rfl rfl ?_
 repeat refine c_r ?_
 refine rg0 ?_
 repeat refine c_r ?_
 refine rg0 ?_
 repeat refine c_r ?_
 refine wc0 ?_ ?_
 ·intro h
  simp only[decide_eq_true_eq]at h
  repeat (first|refine c_r ?_|refine rg0 ?_)
  refine rt0 Tryz.ntmps98 ?_
  exact⟨by unfold errL;rw[if_pos h],Keep.refl _ _⟩
 intro h
 simp only[decide_eq_false_iff_not]at h
 repeat refine c_r ?_
 refine rg0 ?_
 repeat refine c_r ?_
 refine wc0 ?_ ?_
 ·intro h2
  simp only[decide_eq_true_eq]at h2
  repeat (first|refine c_r ?_|refine rg0 ?_)
  refine rt0 Tryz.ntmps98 ?_
  exact⟨by unfold errL;rw[if_neg h,if_pos (by omega)],Keep.refl _ _⟩
 ·intro h2
  simp only[decide_eq_false_iff_not]at h2
  repeat (first|refine c_r ?_|refine rg0 ?_)
  refine rt0 Tryz.ntmps98 ?_
  exact⟨by unfold errL;rw[if_neg h,if_neg (by omega)],Keep.refl _ _⟩
theorem sum_take{n:Nm}{i:Nat}(hi:i<n.length)(f:Lab→Nat):((n.take (i+1)).map f).sum=((n.take i).map f).sum+f n[i]:=by
 rw[zak hi,List.map_append,List.sum_append,List.map_cons,List.map_nil,List.sum_cons,List.sum_nil,Nat.add_zero]
theorem zeC:∀(k:Nm),(∀l∈k,l.length≤1000000000)→(k.map fun l=>1+l.length).sum≤1000000001*k.length
 | [],_=>by simp
 |x::k,h=>by
  have h3:=zeC k (fun l hl=>h l (List.mem_cons_of_mem _ hl))
  have h4:=h x (List.mem_cons_self ..)
  rw[List.map_cons,List.sum_cons,List.length_cons];omega
theorem RLen_ok(w:World)(nv:Value)(n:Nm)(hn:Row w nv (n.map vs))(hl:∀l∈n,l.length≤1000000000)(hnl:n.length≤1000000000):
  Fn Tryz.prog 99 #[nv] w (fun v w'=>v=vi (lenN n)∧Ext w w'):=by
 obtain⟨an,cn,rfl,hcn,hgn⟩:=hn
 simp only[List.length_map]at hcn hgn
 rw[List.length_map]
 refine enter Tryz.func99 Tryz.ntmps99 rfl rfl ?_
 repeat refine c_r ?_
 refine rg0 ?_
 repeat refine c_r ?_
 refine rg0 ?_
 repeat refine c_r ?_
 refine rg0 ?_
 repeat refine c_r ?_
 refine zai (fun m σ ds A=>ds=[]∧∃(i:Nat),i+m=n.length∧σ 4=vi i∧σ 0= .slice an n.length cn∧σ 3=vi (lenN (n.take i))∧Ext w A) n.length ?_ ?_
 ·exact⟨rfl,0,by omega,vr0,vq0,vr0,Keep.refl _ _⟩
 rintro m σ ds A ⟨rfl,i,him,h4,h0,h3,hEA⟩
 repeat refine c_r ?_
 refine rg2 h4 h0 ?_
 repeat refine c_r ?_
 refine wc0 ?_ ?_
 ·intro hlt
  simp only[decide_eq_true_eq]at hlt
  have hi:i<n.length:=by omega
  have hi0:(0:Int)≤(i:Int):=by omega
  have hi1:(i:Int)<(n.length:Int):=by omega
  have hi1':(i:Int)+1=((i+1:Nat):Int):=by push_cast;rfl
  have hg:=zaa hEA (hgn i (by simpa using hi))
  rw[List.getElem_map]at hg
  obtain⟨xn,rfl⟩:=Option.isSome_iff_exists.1 (zad hg)
  have hb:=zeC (n.take i) (fun l hl'=>hl l (List.mem_of_mem_take hl'))
  rw[List.length_take]at hb
  have hb2:=hl n[i] (List.getElem_mem hi)
  have hs:((n.take (i+1)).map fun l=>1+l.length).sum=((n.take i).map fun l=>1+l.length).sum+(1+n[i].length):=sum_take hi _
  have hlen:((lenN (n.take i):Nat):Int)+1+((n[i]).length:Int)=((lenN (n.take (i+1)):Nat):Int):=by unfold lenN;rw[hs];omega
  have hln:lenN (n.take i)≤2000000000000000000:=by
   unfold lenN
   have:min i n.length≤1000000000:=by omega
   omega
  repeat refine c_r ?_
  refine rg7 h0 h3 h4 hi0 hi1 hg hlen ?_
  repeat refine c_r ?_
  refine rg2 h4 hi1' ?_
  repeat refine c_r ?_
  exact⟨m - 1,by omega,rfl,i+1,by omega,vq0,(vq1 h0),vq0,hEA⟩
 ·intro hge
  simp only[decide_eq_false_iff_not]at hge
  rw[List.take_of_length_le (by omega)]at h3
  repeat refine c_r ?_
  refine rg1 h3 ?_
  repeat refine c_r ?_
  refine rt1 h3 Tryz.ntmps99 ?_
  exact⟨rfl,hEA⟩
def encL(x:Lab)(_:World)(args:Array Value):Prop:=args=#[vs x]
theorem revDrop{n:Nm}{k:Nat}(hk:k<n.length):(n.take (k+1)).reverse=n[k]::(n.take k).reverse:=by
 rw[zak hk];simp
theorem labelsIt{W0:World}{C:Nat→Prop}{bn:Nat}{nv:Value}{n:Nm}(hbn:W0.heap[bn]? =some (.cells #[nv] 27 (0,0)))(hn:Row W0 nv (n.map vs))(hC1:¬C bn)(hCw:n≠ []→∀b,C b→b<W0.heap.size→∀a m c,nv= .slice (some a) m c→a.block≠b)(hnl:n.length≤1000000000000)
  (hnb:n≠ []→∀a m c,nv= .slice (some a) m c→a.block<W0.heap.size):
  Iter Tryz.prog 221 #[.pointer (some ⟨bn,0,Option.none⟩)] W0 W0.heap.size C n.reverse encL:=by
 intro lp J Jx W hW hnW hJ hJx hY h0
 obtain⟨an,cn,rfl,hcn,hgn⟩:=hn
 simp only[List.length_map]at hcn hgn hbn hCw hnb
 have hln:=(Array.getElem?_eq_some_iff.1 hbn).1
 have p0:zah W (some ⟨bn,0,Option.none⟩)=some (.slice an n.length cn):=zaa hW (zac hbn rfl)
 refine enter Tryz.func221 Tryz.ntmps221 rfl rfl ?_
 repeat refine c_r ?_
 refine rg2 p0 Nat.add_zero ?_
 repeat refine c_r ?_
 refine zai (fun m σ ds v=>ds=[]∧∃(pre:List Lab) (k:Nat),n.reverse=pre++(n.take k).reverse∧k≤m∧k≤n.length∧σ 3=vi ((k:Int) - 1)∧σ 0= .func (.yield lp) #[] #[]∧σ 1= .pointer (some ⟨bn,0,Option.none⟩)∧J pre v∧KeepB W0.heap.size C W v) n.length ?_ ?_
 ·exact⟨rfl,[],n.length,by simp,Nat.le_refl _,Nat.le_refl _,vq0,vq0,vq0,h0,KeepB.refl _ _ _⟩
 rintro m σ ds v ⟨rfl,pre,k,hd,hkm,hkn,h3,hs0,hs1,hjj,hKB⟩
 have p1:zah v (some ⟨bn,0,Option.none⟩)=some (.slice an n.length cn):=zcr hKB hln hC1 p0
 repeat refine c_r ?_
 refine rg1 h3 ?_
 repeat refine c_r ?_
 refine wc0 ?_ ?_
 ·intro hge
  simp only[decide_eq_true_eq,ge_iff_le]at hge
  obtain⟨j,rfl⟩:∃j,k=j+1:=⟨k - 1,by omega⟩
  have hj:j<n.length:=by omega
  have ej:((j+1:Nat):Int) - 1=(j:Int):=by omega
  rw[ej]at h3
  have hj0:(0:Int)≤(j:Int):=by omega
  have hj1:(j:Int)<(n.length:Int):=by omega
  have hg:=hgn j (by simpa using hj)
  rw[List.getElem_map]at hg
  obtain⟨xn,rfl⟩:=Option.isSome_iff_exists.1 (zad hg)
  have hnn:n≠ []:=List.length_pos_iff.1 (by omega)
  have hgv:zah v (adr (some xn) j)=some (vs n[j]):=by
   have hb:=hnb hnn xn _ _ rfl
   have h1:=zaa hW hg
   refine zcr hKB (by rw[zb9];exact hb) (fun hc=>?_) h1
   rw[zb9]at hc
   exact hCw hnn _ hc hb xn _ _ rfl rfl
  have hxs:n.reverse=pre++n[j]::(n.take j).reverse:=by rw[hd,revDrop hj]
  repeat refine c_r ?_
  refine rq ?_;intro gd K hgd hK
  try simp (disch:=first|omega|assumption|rfl) only[go_sem,h3,hs0,hs1,p1,hj0,hj1,hgv]
  refine Yld.mono (hY pre n[j] (n.take j).reverse v _ hxs hjj hKB rfl) ?_
  rintro u x (⟨rfl,hj',hk'⟩| ⟨rfl,hjx⟩)
  ·try simp only[go_sem]
   refine hK _ _ ?_;clear hK hgd;clear K;try clear gd
   repeat refine c_r ?_
   refine wc0 ?_ ?_
   ·intro h;simp at h
   ·intro _
    repeat refine c_r ?_
    refine rg1 h3 ?_
    refine zaC ?_
    exact⟨m - 1,by omega,rfl,pre++ [n[j]],j,by rw[hxs];simp,by omega,by omega,vq0,(vq1 hs0),(vq1 hs1),hj',hKB.trans hk'⟩
  ·try simp only[go_sem]
   refine hK _ _ ?_;clear hK hgd;clear K;try clear gd
   repeat refine c_r ?_
   refine wc0 ?_ ?_
   ·intro _
    repeat refine c_r ?_
    refine zat (by simp) rfl (.inr ⟨_,_,_,hxs,hjx⟩)
   ·intro h;simp at h
 ·intro hge
  simp only[decide_eq_false_iff_not,ge_iff_le]at hge
  have hk0:k=0:=by omega
  subst hk0
  repeat refine c_r ?_
  refine zat (by simp) rfl (.inl ?_)
  rw[hd];simpa using hjj
theorem zeU{w:World}{nv:Value}(hn:∃a n c,nv= .slice a n c):
  Fn Tryz.prog 170 #[nv] w (fun v w'=>v= .func (.func 221) #[] #[.pointer (some ⟨w.heap.size,0,Option.none⟩)]∧Ext w w'∧w'.heap.size=w.heap.size+1∧w'.heap[w.heap.size]? =some (.cells #[nv] 27 (0,0))):=by
 obtain⟨an,nn,cn,rfl⟩:=hn
 refine enter Tryz.func170 Tryz.ntmps170 rfl rfl ?_
 repeat refine c_r ?_
 refine rg0 ?_
 repeat refine c_r ?_
 refine zaM ?_
 intro w1 hE1 hs1 hA
 refine rg0 ?_
 repeat refine c_r ?_
 refine rt0 Tryz.ntmps170 ?_
 exact⟨rfl,hE1,hs1,hA⟩
theorem row_lt{w:World}{nv:Value}{l:List Value}(h:Row w nv l)(h0:l≠ []):∀a m c,nv= .slice (some a) m c→a.block<w.heap.size:=by
 intro a m c hv
 obtain⟨a',c',e,hc,hg⟩:=h
 rw[hv]at e
 injection e with e1
 have h1:=hg 0 (List.length_pos_iff.2 h0)
 rw[←e1]at h1
 have:=zcj (show w.cell? (a.add 0)=some _ from h1)
 rwa [zb9]at this
theorem NLen_ok(w:World)(nv:Value)(n:Nm)(hn:Row w nv (n.map vs))(hl:∀l∈n,l.length≤1000000000)(hnl:n.length≤1000000000):
  Fn Tryz.prog 125 #[nv] w (fun v w'=>v=vi (lenN n)∧Ext w w'):=by
 have hn0:=hn
 obtain⟨an,cn,hnv,_⟩:=id hn
 rw[hnv]
 refine enter Tryz.func125 Tryz.ntmps125 rfl rfl ?_
 repeat refine c_r ?_
 refine rg0 ?_
 repeat refine c_r ?_
 rw[←hnv]
 refine rq ?_;intro gd K hgd hK
 try simp only[go_sem]
 have hB3:=zam w (.cells #[vi 0] 3 (0,0))
 have hE4:=Ext.alloc w (.cells #[vi 0] 3 (0,0))
 have hs4:=zap w (.cells #[vi 0] 3 (0,0))
 revert hB3 hE4 hs4
 generalize w.alloc (.cells #[vi 0] 3 (0,0))=w1
 intro hB3 hE4 hs4
 refine zfo (P:=Tryz.prog) (t:=3) (j:=0) (l:=[vi 0]) hB3 (by simp) rfl rfl rfl ?_
 intro w2 hs2 hB2 hk2
 try simp only[go_sem]
 refine hK _ _ ?_;clear hK hgd;clear K;try clear gd
 simp only[List.set_cons_zero]at hB2
 have hE2:Ext w w2:=Keep.to_ext hE4 rfl (fun b hb=>by omega) hk2
 repeat refine c_r ?_
 refine rq ?_;intro gd K hgd hK
 try simp only[go_sem]
 refine Fn.mono (zeU ⟨_,_,_,hnv⟩) ?_
 rintro _ w3 ⟨rfl,hE3,hs3,hbn⟩
 try simp only[go_sem]
 refine hK _ _ ?_;clear hK hgd;clear K;try clear gd
 have hE23:=hE2.trans hE3
 have hB2':=hE3.at hB2
 have hn3:=hn.ext hE23
 have hlt:n≠ []→∀a m c,nv= .slice (some a) m c→a.block<w.heap.size:=fun hnn=>row_lt hn (by simpa using hnn)
 repeat refine c_r ?_
 refine zhw (g:=221) (cap:=#[.pointer (some ⟨w2.heap.size,0,Option.none⟩)]) (vq0) rfl (labelsIt (C:=fun b=>b=w.heap.size) hbn hn3 (by omega) (fun h0 b hb _ a m c hv=>by have:=hlt h0 a m c hv;omega) (by omega) (fun h0 a m c hv=>by have:=hlt h0 a m c hv;omega)) (Keep.refl _ _) (Nat.le_refl _) (fun b hb=>by omega)
  (fun x A args h=>by rw[h];rfl)
  (fun pre A=>Ext w A∧A.heap[w.heap.size]? =some (.cells #[vi (1+(pre.map fun l=>1+l.length).sum:Nat)] 3 (0,0)))
  (fun _ _ _=>False) ?_ (fun _ _ _ _ h _=>h.elim) ?_ ?_ ?_ (fun _ _ _ _ _ _ _ h _=>h.elim)
 ·rintro pre A B ⟨h1,h2⟩ hk
  exact⟨Keep.to_ext h1 rfl (fun b hb=>by unfold two at hb;omega) hk,(hk.block _ (Array.getElem?_eq_some_iff.1 h2).1 (by unfold two;omega)).trans h2⟩
 ·exact⟨hE23,hB2'⟩
 ·rintro lp pre x suf A args hxs hszA ⟨hEA,hb⟩ rfl
  have hpl:pre.length+1≤n.length:=by
   have:=congrArg List.length hxs
   simp at this;omega
  have hpm:∀l∈pre,l.length≤1000000000:=fun l hl'=>hl l (List.mem_reverse.1 (by rw[hxs];simp[hl']))
  have hxm:x.length≤1000000000:=hl x (List.mem_reverse.1 (by rw[hxs];simp))
  have hsb:=zeC pre hpm
  have hsum:(((1+(pre.map fun l=>1+l.length).sum:Nat):Int))+(1+(x.length:Int))=((1+((pre++ [x]).map fun l=>1+l.length).sum:Nat):Int):=by
   rw[List.map_append,List.sum_append,List.map_cons,List.map_nil,List.sum_cons,List.sum_nil];omega
  have hs2':((1+(pre.map fun l=>1+l.length).sum:Nat):Int)≤2000000000000000000:=by omega
  refine rq ?_;intro gd K hgd hK
  try simp only[go_sem]
  refine hK _ _ ?_;clear hK hgd;clear K;try clear gd
  refine zaC ?_
  refine⟨rfl,KeepB.refl _ _ _,fun Y hY=>?_⟩
  have hbY:=(hY.block _ (by omega) (by unfold two;omega)).trans hb
  have hEY:Ext w Y:=Keep.to_ext hEA rfl (fun b hb=>by unfold two at hb;omega) hY
  have hsY:=hY.size
  have q0:zah Y (some ⟨w.heap.size,0,Option.none⟩)=some (vi (1+(pre.map fun l=>1+l.length).sum:Nat)):=zac hbY rfl
  repeat refine c_r ?_
  refine rq ?_;intro gd K hgd hK
  try simp (disch:=first|omega|assumption|rfl) only[go_sem,q0,hsum]
  refine zfo (P:=Tryz.prog) (t:=3) (j:=0) (l:=[vi (1+(pre.map fun l=>1+l.length).sum:Nat)]) hbY (by simp) rfl rfl rfl ?_
  intro z hz hbz hkz
  try simp only[go_sem]
  refine hK _ _ ?_;clear hK hgd;clear K;try clear gd
  simp only[List.set_cons_zero]at hbz
  repeat refine c_r ?_
  exact⟨⟨Keep.to_ext hEY rfl (fun b hb=>by omega) hkz,hbz⟩,hkz.toB (by omega) (fun i _ h=>h)⟩
 ·intro A hszA ⟨hEA,hb⟩ hD
  have q0:zah A (some ⟨w.heap.size,0,Option.none⟩)=some (vi (1+(n.reverse.map fun l=>1+l.length).sum:Nat)):=zac hb rfl
  have hrev:(n.reverse.map fun l=>1+l.length).sum=(n.map fun l=>1+l.length).sum:=by rw[List.map_reverse,List.sum_reverse]
  rw[hrev]at q0
  repeat refine c_r ?_
  refine rg1 q0 ?_
  repeat refine c_r ?_
  refine zdF (v:=vi (lenN n)) (.inr rfl) (by rfl) Tryz.ntmps125 (vr0) hD ?_
  intro Z hkZ hsZ
  exact⟨rfl,Keep.to_ext hEA rfl (fun b hb=>by omega) hkZ⟩
theorem zfB{n:Nm}{i:Nat}(hi:i<n.length)(h:∀j (h:j<n.length),j<i→errL n[j]=0)(he:errL n[i]≠0):zaH n=errL n[i]:=by
 unfold zaH
 have:n.find? (fun l=>decide (errL l≠0))=some n[i]:=by
  refine findL_at (pre:=n.take i) (suf:=n.drop (i+1)) (zcc hi) (fun y hy=>?_) (by simpa using he)
  obtain⟨j,hj,rfl⟩:=List.getElem_of_mem hy
  rw[List.getElem_take]
  simp at hj
  simpa using h j (by omega) (by omega)
 rw[this]
theorem ze6{n:Nm}(h:∀j (h:j<n.length),errL n[j]=0):zaH n=if 255<lenN n then 3 else 0:=by
 unfold zaH
 have:n.find? (fun l=>decide (errL l≠0))=Option.none:=ziN (fun y hy=>by
  obtain⟨j,hj,rfl⟩:=List.getElem_of_mem hy
  simpa using h j hj)
 rw[this]
theorem zbh(w:World)(nv:Value)(n:Nm)(hn:Row w nv (n.map vs))(hl:∀l∈n,l.length≤1000000000)(hnl:n.length≤1000000000):
  Fn Tryz.prog 49 #[nv] w (fun v w'=>v=vi (zaH n)∧Ext w w'):=by
 have hn0:=hn
 obtain⟨an,cn,rfl,hcn,hgn⟩:=hn
 simp only[List.length_map]at hcn hgn hn0
 rw[List.length_map]
 refine enter Tryz.func49 Tryz.ntmps49 rfl rfl ?_
 repeat refine c_r ?_
 refine rg0 ?_
 repeat refine c_r ?_
 refine rg0 ?_
 repeat refine c_r ?_
 refine zai (fun m σ ds A=>ds=[]∧∃(i:Nat),i+m=n.length∧σ 3=vi i∧σ 0= .slice an n.length cn∧Ext w A∧∀j (h:j<n.length),j<i→errL n[j]=0) n.length ?_ ?_
 ·exact⟨rfl,0,by omega,vr0,vq0,Keep.refl _ _,fun j h hj=>absurd hj (by omega)⟩
 rintro m σ ds A ⟨rfl,i,him,h3,h0,hEA,hlow⟩
 repeat refine c_r ?_
 refine rg2 h3 h0 ?_
 repeat refine c_r ?_
 refine wc0 ?_ ?_
 ·intro hlt
  simp only[decide_eq_true_eq]at hlt
  have hi:i<n.length:=by omega
  have hi0:(0:Int)≤(i:Int):=by omega
  have hi1:(i:Int)<(n.length:Int):=by omega
  have hi1':(i:Int)+1=((i+1:Nat):Int):=by push_cast;rfl
  have hg:=zaa hEA (hgn i (by simpa using hi))
  rw[List.getElem_map]at hg
  obtain⟨xn,rfl⟩:=Option.isSome_iff_exists.1 (zad hg)
  repeat refine c_r ?_
  refine rq ?_;intro gd K hgd hK
  try simp (disch:=first|omega|assumption|rfl) only[go_sem,h0,h3,hi0,hi1,hg]
  refine Fn.mono (zfr A n[i] (by have:=hl n[i] (List.getElem_mem hi);omega)) ?_
  rintro _ A1 ⟨rfl,hE1⟩
  try simp only[go_sem]
  refine hK _ _ ?_;clear hK hgd;clear K;try clear gd
  repeat refine c_r ?_
  refine rg0 ?_
  repeat refine c_r ?_
  refine wc0 ?_ ?_
  ·intro hne
   simp only[Bool.not_eq_true',decide_eq_false_iff_not]at hne
   repeat (first|refine c_r ?_|refine rg0 ?_)
   refine rt0 Tryz.ntmps49 ?_
   exact⟨by rw[zfB hi hlow hne],hEA.trans hE1⟩
  ·intro heq
   simp only[Bool.not_eq_false',decide_eq_true_eq]at heq
   repeat refine c_r ?_
   refine rg2 h3 hi1' ?_
   repeat refine c_r ?_
   refine⟨m - 1,by omega,rfl,i+1,by omega,vq0,(vq1 h0),hEA.trans hE1,fun j hj hji=>?_⟩
   by_cases hj2:j=i
   ·subst hj2;exact heq
   ·exact hlow j hj (by omega)
 ·intro hge
  simp only[decide_eq_false_iff_not]at hge
  have hgood:=ze6 (n:=n) (fun j hj=>hlow j hj (by omega))
  repeat refine c_r ?_
  refine rq ?_;intro gd K hgd hK
  try simp (disch:=first|omega|assumption|rfl) only[go_sem,h0]
  refine Fn.mono (RLen_ok A _ n (hn0.ext hEA) hl hnl) ?_
  rintro _ A1 ⟨rfl,hE1⟩
  try simp only[go_sem]
  refine hK _ _ ?_;clear hK hgd;clear K;try clear gd
  repeat refine c_r ?_
  refine wc0 ?_ ?_
  ·intro hb
   simp only[decide_eq_true_eq]at hb
   repeat (first|refine c_r ?_|refine rg0 ?_)
   refine rt0 Tryz.ntmps49 ?_
   exact⟨by rw[hgood,if_pos (by omega)],hEA.trans hE1⟩
  ·intro hb
   simp only[decide_eq_false_iff_not]at hb
   repeat (first|refine c_r ?_|refine rg0 ?_)
   refine rt0 Tryz.ntmps49 ?_
   exact⟨by rw[hgood,if_neg (by omega)],hEA.trans hE1⟩
theorem zgW(w:World)(nv:Value)(n:Nm)(hn:Row w nv (n.map vs))(hl:∀l∈n,l.length≤1000000000)(hnl:n.length≤1000000000):
  Fn Tryz.prog 72 #[nv] w (fun v w'=>v=vi (zaH n)∧Ext w w'):=by
 have hn0:=hn
 obtain⟨an,cn,rfl,hcn,hgn⟩:=hn
 simp only[List.length_map]at hcn hgn hn0
 rw[List.length_map]
 refine enter Tryz.func72 Tryz.ntmps72 rfl rfl ?_
 repeat refine c_r ?_
 refine rg0 ?_
 repeat refine c_r ?_
 refine rg0 ?_
 repeat refine c_r ?_
 refine zai (fun m σ ds A=>ds=[]∧∃(i:Nat),i+m=n.length∧σ 8=vi i∧σ 7=vi n.length∧σ 6= .slice an n.length cn∧σ 0= .slice an n.length cn∧Ext w A∧∀j (h:j<n.length),j<i→errL n[j]=0) n.length ?_ ?_
 ·exact⟨rfl,0,by omega,vr0,vq0,vq0,vq0,Keep.refl _ _,fun j h hj=>absurd hj (by omega)⟩
 rintro m σ ds A ⟨rfl,i,him,h8,h7,h6,h0,hEA,hlow⟩
 repeat refine c_r ?_
 refine rg2 h8 h7 ?_
 repeat refine c_r ?_
 refine wc0 ?_ ?_
 ·intro hlt
  simp only[decide_eq_true_eq]at hlt
  have hi:i<n.length:=by omega
  have hi0:(0:Int)≤(i:Int):=by omega
  have hi1:(i:Int)<(n.length:Int):=by omega
  have hi1':(i:Int)+1=((i+1:Nat):Int):=by push_cast;rfl
  have hg:=zaa hEA (hgn i (by simpa using hi))
  rw[List.getElem_map]at hg
  obtain⟨xn,rfl⟩:=Option.isSome_iff_exists.1 (zad hg)
  repeat refine c_r ?_
  refine rg5 h6 h8 hi0 hi1 hg ?_
  repeat refine c_r ?_
  refine rq ?_;intro gd K hgd hK
  try simp only[go_sem]
  refine Fn.mono (zkH A n[i] (by have:=hl n[i] (List.getElem_mem hi);omega)) ?_
  rintro _ A1 ⟨rfl,hE1⟩
  try simp only[go_sem]
  refine hK _ _ ?_;clear hK hgd;clear K;try clear gd
  repeat refine c_r ?_
  refine rg0 ?_
  repeat refine c_r ?_
  refine wc0 ?_ ?_
  ·intro hne
   simp only[Bool.not_eq_true',decide_eq_false_iff_not]at hne
   repeat (first|refine c_r ?_|refine rg0 ?_)
   refine rt0 Tryz.ntmps72 ?_
   exact⟨by rw[zfB hi hlow hne],hEA.trans hE1⟩
  ·intro heq
   simp only[Bool.not_eq_false',decide_eq_true_eq]at heq
   repeat refine c_r ?_
   refine rg2 h8 hi1' ?_
   repeat refine c_r ?_
   refine⟨m - 1,by omega,rfl,i+1,by omega,vq0,(vq1 h7),(vq1 h6),(vq1 h0),hEA.trans hE1,fun j hj hji=>?_⟩
   by_cases hj2:j=i
   ·subst hj2;exact heq
   ·exact hlow j hj (by omega)
 ·intro hge
  simp only[decide_eq_false_iff_not]at hge
  have hgood:=ze6 (n:=n) (fun j hj=>hlow j hj (by omega))
  repeat refine c_r ?_
  refine rq ?_;intro gd K hgd hK
  try simp (disch:=first|omega|assumption|rfl) only[go_sem,h0]
  refine Fn.mono (NLen_ok A _ n (hn0.ext hEA) hl hnl) ?_
  rintro _ A1 ⟨rfl,hE1⟩
  try simp only[go_sem]
  refine hK _ _ ?_;clear hK hgd;clear K;try clear gd
  repeat refine c_r ?_
  refine wc0 ?_ ?_
  ·intro hb
   simp only[decide_eq_true_eq]at hb
   repeat (first|refine c_r ?_|refine rg0 ?_)
   refine rt0 Tryz.ntmps72 ?_
   exact⟨by rw[hgood,if_pos (by omega)],hEA.trans hE1⟩
  ·intro hb
   simp only[decide_eq_false_iff_not]at hb
   repeat (first|refine c_r ?_|refine rg0 ?_)
   refine rt0 Tryz.ntmps72 ?_
   exact⟨by rw[hgood,if_neg (by omega)],hEA.trans hE1⟩
def zcl(q f t:Nm):Nm:=q.take (q.length - f.length)++t
structure NmM(n:Nm):Prop where
 lb:∀l∈n,l.length≤1000000
 len:n.length≤1000000
theorem NmM.LB{n:Nm}(h:NmM n):LB n:=fun l hl=>by have:=h.lb l hl;omega
theorem swap_m{q f t:Nm}(hq:NmM q)(ht:NmM t):(∀l∈zcl q f t,l.length≤1000000000)∧(zcl q f t).length≤2000000:=by
 refine⟨fun l hl=>?_,?_⟩
 ·rcases List.mem_append.1 hl with h|h
  ·have:=hq.lb l (List.mem_of_mem_take h);omega
  ·have:=ht.lb l h;omega
 ·unfold zcl
  rw[List.length_append,List.length_take]
  have:=hq.len
  have:=ht.len
  omega
theorem NSwap_ok(w:World)(qv fv tv:Value)(q f t:Nm)(hq:Row w qv (q.map vs))(hf:Row w fv (f.map vs))(ht:Row w tv (t.map vs))(mq:NmM q)(mf:NmM f)(mt:NmM t)(hu:za0 q f=true):
  Fn Tryz.prog 134 #[qv,fv,tv] w (fun v w'=>Ext w w'∧(zaH (zcl q f t)=0→∃sv,v= .tuple #[sv,vi 0]∧Row w' sv ((zcl q f t).map vs)∧BlkB w.heap.size w' sv)∧(zaH (zcl q f t)≠0→v= .tuple #[.slice Option.none 0 0,vi 7])):=by
 have hul:=zdA hu
 obtain⟨aq,cq,hqv,hcq,hgq⟩:=id hq
 obtain⟨af,cf,hfv,_⟩:=id hf
 rw[List.length_map]at hqv hcq hfv
 have hfr:Row w (.slice aq (q.length - f.length) cq) ((q.take (q.length - f.length)).map vs):=by
  have hl:((q.take (q.length - f.length)).map vs).length=q.length - f.length:=by rw[List.length_map,List.length_take];omega
  refine⟨aq,cq,by rw[hl],by omega,fun j hj=>?_⟩
  have:=hgq j (by rw[List.length_map];omega)
  rw[this];simp
 have hm:=swap_m (f:=f) mq mt
 have bq:=mq.len
 have bf:=mf.len
 have bt:=mt.len
 refine enter Tryz.func134 Tryz.ntmps134 rfl rfl ?_
 repeat refine c_r ?_
 refine rg0 ?_
 repeat refine c_r ?_
 refine rq ?_;intro gd K hgd hK
 try simp only[go_sem]
 refine Fn.mono (zdk _ _ _ _ _ hq hf mq.LB mf.LB (by have:=mq.len;omega) (by have:=mf.len;omega)) ?_
 rintro _ w1 ⟨rfl,hE1⟩
 try simp only[go_sem]
 refine hK _ _ ?_;clear hK hgd;clear K;try clear gd
 rw[hu]
 repeat refine c_r ?_
 refine wc0 ?_ ?_
 ·intro h;cases h
 intro _
 have e1:(q.length:Int) - (f.length:Int)=((q.length - f.length:Nat):Int):=by omega
 have e2:(0:Int)≤((q.length - f.length:Nat):Int):=by omega
 have e3:((q.length - f.length:Nat):Int)≤(cq:Int):=by omega
 repeat refine c_r ?_
 refine rq ?_;intro gd K hgd hK
 try simp (disch:=first|omega|assumption|rfl) only[go_sem,hqv,hfv,e1,e2,e3,Nat.sub_zero,zar,ite_self]
 refine Fn.mono (zkL (hfr.ext hE1) (by rw[List.length_take];have:=mq.len;omega)) ?_
 rintro u w2 ⟨hou,hE2⟩
 try simp only[go_sem]
 have hl2:((q.take (q.length - f.length)).map vs).length+(t.map vs).length≤1000000000000:=by
  rw[List.length_map,List.length_map,List.length_take];have:=mq.len;have:=mt.len;omega
 refine zbU hou (ht.ext (hE1.trans hE2)) (by rfl) (by rfl) (by rfl) (by rfl) (by rfl) (by rfl) (by rfl) (by rfl) (zd3 _) hl2 (by decide) hE2.size ?_
 intro sv w3 hs hE3 _ _
 try simp only[go_sem]
 refine hK _ _ ?_;clear hK hgd;clear K;try clear gd
 have hE13:=hE3 w (hE1.trans hE2) hE1.size
 rw[←List.map_append]at hs
 have hsr:Row w3 sv ((zcl q f t).map vs):=hs.row
 obtain⟨as1,cs1,hsv,hcs,hgs⟩:=id hsr
 rw[List.length_map]at hsv hcs
 repeat refine c_r ?_
 refine rq ?_;intro gd K hgd hK
 try simp only[go_sem]
 refine Fn.mono (zgW w3 _ (zcl q f t) hsr hm.1 (by have:=hm.2;omega)) ?_
 rintro _ w4 ⟨rfl,hE4⟩
 try simp only[go_sem]
 refine hK _ _ ?_;clear hK hgd;clear K;try clear gd
 repeat refine c_r ?_
 refine wc0 ?_ ?_
 ·intro hne
  simp only[Bool.not_eq_true',decide_eq_false_iff_not]at hne
  repeat (first|refine c_r ?_|refine rg0 ?_)
  refine zaA (.inr rfl) Tryz.ntmps134 rfl (zal (v:= .slice Option.none 0 0) (vr0) (zal (v:=vi 7) (vr0) zaz)) ?_
  exact⟨hE13.trans hE4,fun h=>absurd h hne,fun _=>rfl⟩
 ·intro heq
  simp only[Bool.not_eq_false',decide_eq_true_eq]at heq
  repeat refine c_r ?_
  refine rq ?_;intro gd K hgd hK
  try simp only[go_sem]
  rw[hsv]
  refine Fn.mono (P_cs.Clip_ok hcs) ?_
  rintro _ y0 ⟨rfl,hy0⟩
  try simp only[go_sem]
  rw[hy0]
  clear hy0 y0
  refine hK _ _ ?_;clear hK hgd;clear K;try clear gd
  repeat refine c_r ?_
  refine zaA (.inr rfl) Tryz.ntmps134 rfl (zal (v:= .slice as1 (zcl q f t).length (zcl q f t).length) (vr0) (zal (v:=vi 0) (vr0) zaz)) ?_
  have hbs:=hs.blk
  rw[hsv]at hbs
  refine⟨hE13.trans hE4,fun _=>⟨_,rfl,?_,(hbs.same.ext hE4.size).mono hE1.size⟩,fun h=>absurd heq h⟩
  exact Row.ext (w:=w3) ⟨as1,(zcl q f t).length,by rw[List.length_map],by rw[List.length_map];exact Nat.le_refl _,hgs⟩ hE4
theorem RSwap_ok(w:World)(qv fv tv:Value)(q f t:Nm)(hq:Row w qv (q.map vs))(hf:Row w fv (f.map vs))(ht:Row w tv (t.map vs))(mq:NmM q)(mf:NmM f)(mt:NmM t)(hu:za0 q f=true):
  Fn Tryz.prog 122 #[qv,fv,tv] w (fun v w'=>Ext w w'∧(zaH (zcl q f t)=0→∃sv,v= .tuple #[sv,vi 0]∧Row w' sv ((zcl q f t).map vs)∧BlkB w.heap.size w' sv)∧(zaH (zcl q f t)≠0→v= .tuple #[.slice Option.none 0 0,vi 7])):=by
 have hul:=zdA hu
 obtain⟨aq,cq,hqv,hcq,hgq⟩:=id hq
 obtain⟨af,cf,hfv,_⟩:=id hf
 rw[List.length_map]at hqv hcq hfv
 have hfr:Row w (.slice aq (q.length - f.length) cq) ((q.take (q.length - f.length)).map vs):=by
  have hl:((q.take (q.length - f.length)).map vs).length=q.length - f.length:=by rw[List.length_map,List.length_take];omega
  refine⟨aq,cq,by rw[hl],by omega,fun j hj=>?_⟩
  have:=hgq j (by rw[List.length_map];omega)
  rw[this];simp
 have hm:=swap_m (f:=f) mq mt
 have bq:=mq.len
 have bf:=mf.len
 have bt:=mt.len
 refine enter Tryz.func122 Tryz.ntmps122 rfl rfl ?_
 repeat refine c_r ?_
 refine rg0 ?_
 repeat refine c_r ?_
 refine rq ?_;intro gd K hgd hK
 try simp only[go_sem]
 refine Fn.mono (zgR _ _ _ _ _ hq hf mq.LB mf.LB (by have:=mq.len;omega) (by have:=mf.len;omega)) ?_
 rintro _ w1 ⟨rfl,hE1⟩
 try simp only[go_sem]
 refine hK _ _ ?_;clear hK hgd;clear K;try clear gd
 rw[hu]
 repeat refine c_r ?_
 refine wc0 ?_ ?_
 ·intro h;cases h
 intro _
 have e1:(q.length:Int) - (f.length:Int)=((q.length - f.length:Nat):Int):=by omega
 have e2:(0:Int)≤((q.length - f.length:Nat):Int):=by omega
 have e3:((q.length - f.length:Nat):Int)≤(cq:Int):=by omega
 repeat refine c_r ?_
 refine rq ?_;intro gd K hgd hK
 try simp (disch:=first|omega|assumption|rfl) only[go_sem,hqv,hfv,e1,e2,e3,Nat.sub_zero,zar,ite_self]
 refine zia (z:=vs []) (by rfl) (by rfl) (by rfl) (by rfl) ?_
 intro w2 hE2 hs2 ho2
 try simp (disch:=first|omega|assumption|rfl) only[go_sem,hqv,hfv,e1,e2,e3,Nat.sub_zero,zar,ite_self]
 have hE12:=hE1.trans hE2
 refine zbU ho2 (hfr.ext hE12) (by rfl) (by rfl) (by rfl) (by rfl) (by rfl) (by rfl) (vr0) (vr0) (zd3 _) (by rw[List.length_map,List.length_take,List.length_nil];omega) (by decide) hE2.size ?_
 intro uv w3 hou hE3 _ _
 try simp only[go_sem]
 have hE13:=hE3 w1 hE2 (Nat.le_refl _)
 rw[List.nil_append]at hou
 have hl2:((q.take (q.length - f.length)).map vs).length+(t.map vs).length≤1000000000000:=by
  rw[List.length_map,List.length_map,List.length_take];have:=mq.len;have:=mt.len;omega
 refine zbU hou (ht.ext (hE1.trans hE13)) (by rfl) (by rfl) (by rfl) (by rfl) (by rfl) (by rfl) (by rfl) (by rfl) (zd3 _) hl2 (by decide) hE13.size ?_
 intro sv w4 hs hE4 _ _
 try simp only[go_sem]
 refine hK _ _ ?_;clear hK hgd;clear K;try clear gd
 have hE14:=hE1.trans (hE4 w1 hE13 (Nat.le_refl _))
 rw[←List.map_append]at hs
 have hsr:Row w4 sv ((zcl q f t).map vs):=hs.row
 repeat refine c_r ?_
 refine rq ?_;intro gd K hgd hK
 try simp only[go_sem]
 refine Fn.mono (zbh w4 _ (zcl q f t) hsr hm.1 (by have:=hm.2;omega)) ?_
 rintro _ w5 ⟨rfl,hE5⟩
 try simp only[go_sem]
 refine hK _ _ ?_;clear hK hgd;clear K;try clear gd
 repeat refine c_r ?_
 refine wc0 ?_ ?_
 ·intro hne
  simp only[Bool.not_eq_true',decide_eq_false_iff_not]at hne
  repeat (first|refine c_r ?_|refine rg0 ?_)
  refine zaA (.inr rfl) Tryz.ntmps122 rfl (zal (v:= .slice Option.none 0 0) (vr0) (zal (v:=vi 7) (vr0) zaz)) ?_
  exact⟨hE14.trans hE5,fun h=>absurd h hne,fun _=>rfl⟩
 ·intro heq
  simp only[Bool.not_eq_false',decide_eq_true_eq]at heq
  repeat (first|refine c_r ?_|refine rg0 ?_)
  refine zaA (.inr rfl) Tryz.ntmps122 rfl (zal (v:=sv) (vr0) (zal (v:=vi 0) (vr0) zaz)) ?_
  exact⟨hE14.trans hE5,fun _=>⟨_,rfl,hsr.ext hE5,(hs.blk.ext hE5.size).mono hE1.size⟩,fun h=>absurd heq h⟩
end Go.Proofs.YtahbdamijngmmaaGreat
namespace Go.Proofs.YtahbdamijngmmaaGreat.P_cm
open Go Go.Proofs.YtahbdamijngmmaaGreat
set_option maxRecDepth 10000
theorem Clip_ok{w:World}{a:Option Addr}{n c:Nat}(hc:n≤c):Fn Tryz.prog 137 #[.slice a n c] w (fun u w'=>u= .slice a n n∧w'=w):=by
 refine enter Tryz.func137 Tryz.ntmps137 rfl rfl ?_
 repeat refine c_r ?_
 refine rg0 ?_
 repeat refine c_r ?_
 refine rq ?_;intro gd K hgd hK
 try simp only[go_sem]
 have hcl:slD Tryz.prog (some (TypeDesc.slice 27)) (Value.slice a n c) Option.none (some (Value.int IntKind.i64 ↑n)) (some (Value.int IntKind.i64 ↑n))=some (.slice a n n):=zds hc (by rfl)
 rw[hcl]
 try simp only[go_sem]
 refine hK _ _ ?_;clear hK hgd;clear K;try clear gd
 repeat refine c_r ?_
 refine rt0 Tryz.ntmps137 ?_
 exact⟨rfl,rfl⟩
end Go.Proofs.YtahbdamijngmmaaGreat.P_cm
namespace Go.Proofs.YtahbdamijngmmaaGreat
open Go
set_option maxRecDepth 10000
theorem DatAt.cells{w0:World}{cs:List Value}{d:DatL}(h:DatAt w0 cs d):∃nm,cs[0]? =some (vi d.ty)∧cs[1]? =some nm∧NamesAt w0 nm d.names:=by
 obtain⟨nm,nu,tx,rw',rfl,h1,_⟩:=h.ex
 exact⟨nm,rfl,rfl,h1⟩
theorem zaq{w:World}{p:Option Addr}{k j:Nat}{cs:List Value}{u:Value}(h:zaw w p k=some cs)(hj:cs[j]? =some u):zah w (adr p j)=some u:=by
 obtain⟨hj1,hj2⟩:=List.getElem?_eq_some_iff.1 hj
 have:=zdh h hj1
 rw[hj2]at this;exact this
section
variable {P : Program} {d : Option Tmp} {ty : TypeId} {ps : String} {af : Array Edge} {g : Option (Nat × Bool)} {ρ : Operand → Value} {w : World} {K : Value → World → Prop}
end
theorem zh9{k:Nat}(h:k<256):zae (UInt8.ofNat k)= .int .u8 (k:Int):=by
 unfold zae
 rw[UInt8.toNat_ofNat_of_lt' (by simpa [UInt8.size] using h)]
theorem zh2{key:Lab}{v:Value}:∀(es:List MapEntry) (l:List (Lab×Value)) (i:Nat),es.map (fun e=>(e.key,e.val))=l.map (fun p=>(vs p.1,p.2))→l.lookup key=some v→∃j e,Instr.findNow .string (vs key) es i=some (some (i+j,v))∧es[j]? =some e∧e.key=vs key∧e.val=v
 | [],[],_,_,h=>by simp at h
 | [],_::_,_,h,_=>by simp at h
 |_::_,[],_,h,_=>by simp at h
 |e::es,(k,u)::l,i,h,hl=>by
  simp only[List.map_cons,List.cons.injEq,Prod.mk.injEq]at h
  obtain⟨⟨h1,h2⟩,h3⟩:=h
  simp only[List.lookup_cons]at hl
  split at hl
  ·rename_i heq
   cases hl
   have:key=k:=by simpa using heq
   subst this
   exact⟨0,e,by simp only[Instr.findNow,h1,zcm,heq,h2,Nat.add_zero],rfl,h1,h2⟩
  ·rename_i hne
   obtain⟨j,e',g1,g2,g3⟩:=zh2 es l (i+1) h3 hl
   exact⟨j+1,e',by simp only[Instr.findNow,h1,zcm,hne];rw[g1];congr 3;omega,by simpa using g2,g3⟩
section
variable {P : Program} {d : Option Tmp} {ty : TypeId} {ps : String} {af : Array Edge} {g : Option (Nat × Bool)} {ρ : Operand → Value} {w : World} {K : Value → World → Prop}
theorem zgn{t:TypeId}{m k:Operand}{ok:Bool}{mv kv v:Value}(hm:ρ m=mv)(hk:ρ k=kv)(h:lkV P w t mv kv ok=some v)(hK:K v w):opW P ⟨d,.lookup t m k ok,ty,ps,af,g⟩ ρ w K:=by
 have:=zaK (P:=P) (K:=K) (zjM h) hK
 rw[←hm,←hk]at this
 exact this
theorem ziy{t kt et:TypeId}{m k x:Operand}{r:Nat}{l:List (Lab×Value)}{key:Lab}{v:Value}(ht:tyU P t=some (.map kt et))(hk:tyU P kt=some .string)
  (hm:ρ m= .map (some r)) (hkey:ρ k=vs key) (hx:ρ x=v) (hat:MapAt w r l) (hin:l.lookup key=some v)
  (h:∀w',MapAt w' r l→Keep (fun i=>i=r) w w'→w'.heap.size=w.heap.size→K undef w'):
  opW P ⟨d,.mapUpdate t m k x,ty,ps,af,g⟩ ρ w K:=by
 obtain⟨es,clk,h1,h2,h3,h4⟩:=hat
 obtain⟨j,e,hf,hj,hek,hev⟩:=zh2 es.toList l 0 h2 hin
 rw[Nat.zero_add]at hf
 have hj':es[j]? =some e:=by simpa using hj
 have hrun:(Instr.mapUpdate t (.map (some r)) (vs key) v).run P w= .ok () (w.putObj r (.map (es.modify j fun e=>{e with key:=vs key,val:=v}) clk)):=by
  have hck:∀e,(Instr.checkKey e 10000 kt (vs key)).run P w= .ok () w:=fun e=>zb7 hk 9999
  have hst:(Instr.keyThatStays (vs key) (vs key)).run P w= .ok (vs key) w:=MapKept.run_keyThatStays (d:= .string) trivial
  simp[Instr.mapUpdate,run_underlying (show P.underlying t=_ from ht),MapKept.run_getObj_map h1,hck,Instr.findKey,run_underlying (show P.underlying kt=_ from hk),hf,hj',hek,hst,MapKept.run_setObj_map _ h1,Result.andThen]
  rfl
 have hlt:r<w.heap.size:=(Array.getElem?_eq_some_iff.1 h1).1
 have hsame:∀i:Nat,(es.modify j fun e=>{e with key:=vs key,val:=v})[i]? =es[i]?:=fun i=>by
  rw[Array.getElem?_modify]
  split
  ·rename_i hi
   rw[←hi,hj']
   cases e
   simp only at hek hev
   subst hek hev
   rfl
  ·rfl
 have hmod:(es.modify j fun e=>{e with key:=vs key,val:=v})=es:=Array.ext_getElem? hsame
 rw[hmod]at hrun
 have hat':MapAt (w.putObj r (.map es clk)) r l:=⟨es,clk,World.putObj_heap_same hlt,h2,h3,h4⟩
 have hfin:=h _ hat' (zaD rfl) (by simp)
 show opR P K ((do Instr.mapUpdate t (ρ m) (ρ k) (ρ x);pure .skip:Sem Next).run P w)
 rw[hm,hkey,hx]
 simp only[Sem.run_bind,hrun,Result.andThen_ok,Sem.run_pure]
 exact hfin
end
structure NmG(n:Nm):Prop where
 ne:∀l∈n,l≠ []
 lb:∀l∈n,l.length≤1000000
 len:n.length≤1000
theorem NmG.m{n:Nm}(h:NmG n):NmM n:=⟨h.lb,by have:=h.len;omega⟩
theorem zeS{y:Addr}{n:Nat}(h:y.block<n):offS (zc5 n) (some y):=fun a ha hb=>by
 cases ha
 unfold zc5 at hb
 exact absurd (show n≤y.block from hb) (by omega)
theorem Rows.mapM{α β:Type}{k:Nat}{C:List Value→α→Prop}{C':List Value→β→Prop}{w:World}{v:Value}{xs:List α}(h:Rows k C w v xs)(f:α→β)(hC:∀cs x,x∈xs→C cs x→C' cs (f x)):Rows k C' w v (xs.map f):=by
 obtain⟨L,h1,h2,h3⟩:=h
 refine⟨L,h1,by rw[List.length_map];exact h2,fun i h h'=>?_⟩
 rw[List.length_map]at h'
 rw[List.getElem_map]
 exact hC _ _ (List.getElem_mem h') (h3 i h h')
theorem zbI(w:World):Row w (.slice Option.none 0 0) (([]:Nm).map vs):=⟨Option.none,0,rfl,Nat.le_refl _,fun j h=>absurd h (by simp)⟩
end Go.Proofs.YtahbdamijngmmaaGreat
