/-
  Texts of a proof, joined: HT, HU, HW, HV, KR, KR5, KR6, G2, G3, G4, G5, HX, K26, JR, JS, K29, K37, JT, JU, NG, NI, NH, NJ, W3, W4, W5, W6, NL, NM.
  Conditions: none.
-/
import Derived.Test.YtanmnkbccfcagaaGreatDoorQCC05
import Derived.Test.YtanmnkbccfcagaaGreatDoorQCC02
import Derived.Test.YtanmnkbccfcagaaGreatDoorQCC03
import Derived.Test.YtanmnkbccfcagaaGreatDoorQCC04
import Derived.Test.YtanmnkbccfcagaaGreatDoorQCC01
set_option linter.unusedVariables false
set_option linter.unusedSimpArgs false
set_option linter.defProp false
set_option linter.unnecessarySimpa false
set_option maxHeartbeats 8000000
namespace Go.Proofs.YtanmnkbccfcagaaGreatDoor
open Go
set_option maxRecDepth 10000
section
variable {P : Program} {d : Option Tmp} {ty : TypeId} {ps : String} {af : Array Edge} {g : Option (Nat × Bool)} {ρ : Operand → Value} {w : World} {K : Value → World → Prop}
theorem op_appS2{B:Nat}{s x:Operand}{t tu e:TypeId}{inf:TypeInfo}{v:Value}{l:List Value}{bs:List UInt8}(hown:Own B w e v l)(ht:tyU P t=some (.slice e))(hu:tyU P tu=some .string)(hi:P.info? e=some inf)(hz:inf.zero=some (.int .u8 0))
  (hsize:inf.size=1) (hby:inf.bytes=1) (hv:ρ s=v) (hx:ρ x=vs bs) (hlen:l.length+bs.length≤100000000000) (hB:B≤w.heap.size)
  (h:∀v' w',Own B w' e v' (l++bs.map zab)→Keep (fun b=>some b=v.ownBlock) w w'→(∀b,some b=v'.ownBlock→some b=v.ownBlock∨w.heap.size≤b)→K v' w'):
  opW P ⟨d,.call ⟨.builtin .append,#[s,x],#[t,tu]⟩,ty,ps,af,g⟩ ρ w K:=by
 have hs:(⟨bs.toArray⟩:ByteArray).size=bs.length:=by simp[ByteArray.size]
 obtain⟨v',w',hr,h2,h3,h4⟩:=Lib.run_append_own_string (P:=P) w B t tu ty e inf (show P.underlying t=_ from ht) (show P.underlying tu=_ from hu) hi hz hsize hby v l.length l hown ⟨bs.toArray⟩ (by rw[hs];simp[maxLen];omega) (by rw[hs];omega) hB
 have hnew:∀b,some b=v'.ownBlock→some b=v.ownBlock∨w.heap.size≤b:=fun b hb=>by
  rcases hown.2 with ⟨rfl,hl0⟩| ⟨g,cap,cur,rfl,hbg,hg,hnc,hcm,hcs,htake⟩
  ·obtain⟨v2,w2,k1,k2,_⟩:=Lib.run_append_own_string (P:=P) w w.heap.size t tu ty e inf (show P.underlying t=_ from ht) (show P.underlying tu=_ from hu) hi hz hsize hby (.slice Option.none 0 0) l.length l ⟨hown.1,.inl ⟨rfl,hl0⟩⟩ ⟨bs.toArray⟩ (by rw[hs];simp[maxLen];omega) (by rw[hs];omega) (Nat.le_refl _)
   rw[k1]at hr
   cases hr
   rcases k2.2 with ⟨rfl,_⟩| ⟨g,cap,cur,rfl,hg,_⟩
   ·cases hb
   ·cases hb;exact .inr hg
  ·by_cases hroom:l.length+(⟨bs.toArray⟩:ByteArray).size≤cap
   ·have k1:=Lib.run_append_room_string (P:=P) w t tu ty e inf (show P.underlying t=_ from ht) (show P.underlying tu=_ from hu) hi hsize g l.length cap cur hg ⟨bs.toArray⟩ hroom (by rw[hs];omega)
    rw[k1]at hr
    cases hr
    exact .inl hb
   ·have holds:∀j u,l[j]? =some u→w.cell? ((⟨g,0,Option.none⟩:Addr).add j)=some u:=hown.cells (g:=g) rfl
    have k1:=Lib.run_append_grow_string (P:=P) w t tu ty e inf (.int .u8 0) (show P.underlying t=_ from ht) (show P.underlying tu=_ from hu) hi hz ⟨g,0,Option.none⟩ l.length cap l (by rw[hsize];simp) holds ⟨bs.toArray⟩ (by omega) (by rw[hs];omega) (by rw[hby];exact growslice_fits (by omega) (by rw[hs];omega))
    rw[k1]at hr
    cases hr
    cases hb
    exact .inr (Nat.le_refl _)
 have hc:Lib.strCells ⟨bs.toArray⟩=bs.map zab:=by simp[Lib.strCells,zab]
 rw[hs,hc]at h2
 refine zbs (b:= .append) (r:= .ok v' w') (fun v2 w2 h'=>?_) ⟨v',w',by rw[hv,hx];exact hr⟩
 rw[hv,hx]at h'
 have e1:(Builtin.append_ #[t,tu] ty #[v,.string ⟨bs.toArray⟩]).run P w= .ok v2 w2:=h'
 rw[hr]at e1
 cases e1
 have hl:l.length+bs.length=(l++bs.map zab).length:=by simp
 rw[hl]at h2
 exact h v' w' h2 (zcS h3 (zaw _ _ _ _ hr)) hnew
end
def BldU(U:Nat→Prop)(w:World)(b:Nat)(bs:Lab):Prop:=∃p v,(p= .pointer Option.none∨p= .pointer (some ⟨b,0,Option.none⟩))∧w.heap[b]? =some (.cells #[p,v] 106 (0,0))∧Own 0 w 5 v (bs.map zab)∧∀i,some i=v.ownBlock→U i
theorem BldU.keep{U S:Nat→Prop}{w x:World}{b:Nat}{bs:Lab}(h:BldU U w b bs)(hk:Keep S w x)(hb:¬S b)(hS:∀i,U i→i<w.heap.size→¬S i):BldU U x b bs:=by
 obtain⟨p,v,h1,h2,h3,h4⟩:=h
 exact⟨p,v,h1,(hk.block _ (Array.getElem?_eq_some_iff.1 h2).1 hb).trans h2,h3.keep hk (fun i hi=>hS i (h4 i hi) (h3.ge hi).2),h4⟩
theorem BldU.ext{U:Nat→Prop}{w x:World}{b:Nat}{bs:Lab}(h:BldU U w b bs)(hE:Ext w x):BldU U x b bs:=h.keep hE (fun h=>h) (fun _ _ _ h=>h)
theorem zfo{U:Nat→Prop}{w:World}{b:Nat}{bs s:List UInt8}(h:BldU U w b bs)(hU:∀i,w.heap.size≤i→U i)(hlen:bs.length+s.length≤100000000000):
  Fn Tryz.prog 57 #[.pointer (some ⟨b,0,Option.none⟩),vs s] w (fun _ w'=>BldU U w' b (bs++s)∧Keep (fun i=>i=b∨U i) w w'):=by
 obtain⟨p,v,hp,hb,hown,hUv⟩:=h
 have hne:=ziA hown hb
 obtain⟨inf,hi,hz,hsz,hby⟩:=info_parts (P:=Tryz.prog) (e:=5) (z:= .int .u8 0) (size:=1) (bytes:=1) (by kernel_rfl)
 refine enter Tryz.func57 Tryz.ntmps57 rfl rfl ?_
 repeat refine c_r ?_
 refine rg0 ?_
 repeat refine c_r ?_
 refine rq ?_;intro gd K hgd hK
 try simp only[go_sem]
 refine Fn.mono (zbx hp hb) ?_
 rintro _ w1 ⟨hb1,hk1,hs1⟩
 try simp only[go_sem]
 refine hK _ _ ?_;clear hK hgd;clear K;try clear gd
 have hown1:=hown.keep hk1 (fun i hi he=>hne (he▸hi))
 have c1:zag w1 (some ⟨b,1,Option.none⟩)=some v:=zad hb1 rfl
 repeat refine c_r ?_
 refine rq ?_;intro gd K hgd hK
 try simp (disch:=first|omega|assumption|rfl) only[go_sem,c1,Nat.zero_add]
 refine op_appS2 hown1 (by rfl) (by rfl) hi hz hsz hby (by rfl) (by rfl) (by simpa using hlen) (by omega) ?_
 intro v2 w2 hown2 hk2 hnew
 try simp only[go_sem]
 have hb2:=(hk2.block b (Array.getElem?_eq_some_iff.1 hb1).1 hne).trans hb1
 have hne2:some b≠v2.ownBlock:=fun he=>by
  obtain⟨cur,fr,h1⟩:=zde hown2 he
  rw[hb2]at h1
  injection h1 with h1
  injection h1 with _ h2
  revert h2;decide
 obtain⟨a2,c2,hv2⟩:=hown2.slice
 refine zdq (P:=Tryz.prog) (t:=31) (j:=1) (l:=[.pointer (some ⟨b,0,Option.none⟩),v]) hb2 (by simp) (by rw[hv2];rfl) rfl rfl ?_
 intro w3 hs3 hb3 hk3
 try simp only[go_sem]
 refine hK _ _ ?_;clear hK hgd;clear K;try clear gd
 have hown3:=hown2.keep hk3 (fun i hi he=>hne2 (he▸hi))
 repeat refine c_r ?_
 refine rg0 ?_
 repeat refine c_r ?_
 refine zaf (.inr rfl) Tryz.ntmps57 rfl (zac rfl (zac rfl zae)) ?_
 refine⟨⟨_,v2,.inr rfl,by simpa using hb3,by rw[List.map_append];exact hown3,fun i hi=>?_⟩,?_⟩
 ·rcases hnew i hi with h|h
  ·exact hUv i h
  ·exact hU i (by omega)
 exact((hk1.mono (fun i _ h=> .inl h)).trans (hk2.mono (fun i _ h=> .inr (hUv i h)))).trans (hk3.mono (fun i _ h=> .inl h))
theorem String_U{U:Nat→Prop}{w:World}{b:Nat}{bs:List UInt8}(h:BldU U w b bs)(hlen:bs.length≤100000000000):
  Fn Tryz.prog 64 #[.pointer (some ⟨b,0,Option.none⟩)] w (fun v w'=>v=vs bs∧Keep U w w'):=by
 obtain⟨p,v,hp,hb,hown,hU⟩:=h
 rcases hown.2 with ⟨rfl,hl⟩| ⟨g,cap,cur,rfl,_,hg,hn,hcap,hcs,hx⟩
 ·have h0:bs=[]:=by simpa using hl
  subst h0
  refine enter Tryz.func64 Tryz.ntmps64 rfl rfl ?_
  repeat refine c_r ?_
  refine rg0 ?_
  repeat refine c_r ?_
  refine zaU (fun _=>false) [(0,true),(1,true),(2,true),(3,true),(5,true),(6,true),(7,true),(8,true),(9,true),(4,false),(10,false),(11,true)] NoS mixed (by kernel_rfl) ?_;intro gd K x hgd hx hxe hK;have hx0:=za0 hxe;clear hxe
  have c1:zag x (some ⟨b,1,Option.none⟩)=some (.slice Option.none 0 0):=zad (Ext.at hx0 hb) rfl
  simp (disch:=first|omega|assumption|rfl) only[go_sem,c1,Nat.zero_add]
  refine zaP (u:= .slice Option.none 0 0) (vq0) (Lib.run_unsafeSliceData_nil _ _ _ _ _) ?_
  refine⟨.inr (Keep.refl _ _),?_⟩
  refine zau (u:= .pointer Option.none) (z:=vi 0) (vq0) (vr0) (Lib.run_unsafeString_none (P:=Tryz.prog) _ _ _ _ _) ?_
  refine⟨.inr (Keep.refl _ _),?_⟩
  refine hK _ _ ?_;clear hK hgd;clear K;try clear gd
  repeat refine c_r ?_
  refine zaf (.inr rfl) Tryz.ntmps64 rfl (zac (vr0) zae) ?_
  exact⟨rfl,hx0.mono (fun i _ h=>h.elim)⟩
 by_cases h0:bs=[]
 ·subst h0
  refine enter Tryz.func64 Tryz.ntmps64 rfl rfl ?_
  repeat refine c_r ?_
  refine rg0 ?_
  repeat refine c_r ?_
  refine zaU (fun _=>false) [(0,true),(1,true),(2,true),(3,true),(5,true),(6,true),(7,true),(8,true),(9,true),(4,false),(10,false),(11,true)] NoS mixed (by kernel_rfl) ?_;intro gd K x hgd hx hxe hK;have hx0:=za0 hxe;clear hxe
  have c1:zag x (some ⟨b,1,Option.none⟩)=some (.slice (some ⟨g,0,Option.none⟩) 0 cap):=zad (Ext.at hx0 hb) rfl
  have hgx:=Ext.at hx0 hg
  simp (disch:=first|omega|assumption|rfl) only[go_sem,c1,Nat.zero_add]
  by_cases hc0:cap=0
  ·subst hc0
   refine zaP (u:= .slice (some ⟨g,0,Option.none⟩) 0 0) (vq0) (Lib.run_unsafeSliceData_zero (P:=Tryz.prog) _ _ _ 5 (by rfl) _ _ _ (by simp only[World.shape?,hgx];rfl)) ?_
   refine⟨.inr (Ext.alloc x _),?_⟩
   refine zau (u:= .pointer (some ⟨x.heap.size,0,Option.none⟩)) (z:=vi 0) (vq0) (vr0) (Lib.run_unsafeString_none (P:=Tryz.prog) _ _ _ _ _) ?_
   refine⟨.inr (Keep.refl _ _),?_⟩
   refine hK _ _ ?_;clear hK hgd;clear K;try clear gd
   repeat refine c_r ?_
   refine zaf (.inr rfl) Tryz.ntmps64 rfl (zac (vr0) zae) ?_
   exact⟨rfl,(hx0.trans (Ext.alloc x _)).mono (fun i _ h=>h.elim)⟩
  ·refine zaP (u:= .slice (some ⟨g,0,Option.none⟩) 0 cap) (vq0) (Lib.run_unsafeSliceData_row _ _ _ _ _ _ hc0) ?_
   refine⟨.inr (Keep.refl _ _),?_⟩
   refine zau (u:= .pointer (some ⟨g,0,Option.none⟩)) (z:=vi 0) (vq0) (vr0) (Lib.run_unsafeString_none (P:=Tryz.prog) _ _ _ _ _) ?_
   refine⟨.inr (Keep.refl _ _),?_⟩
   refine hK _ _ ?_;clear hK hgd;clear K;try clear gd
   repeat refine c_r ?_
   refine zaf (.inr rfl) Tryz.ntmps64 rfl (zac (vr0) zae) ?_
   exact⟨rfl,hx0.mono (fun i _ h=>h.elim)⟩
 simp only[List.length_map,Nat.mul_one]at hn hx hb hcs
 have hlen0:0<bs.length:=List.length_pos_iff.2 h0
 refine enter Tryz.func64 Tryz.ntmps64 rfl rfl ?_
 repeat refine c_r ?_
 refine rg0 ?_
 repeat refine c_r ?_
 have hbg:b≠g:=fun he=>by
  subst he
  rw[hb]at hg
  injection hg with hg
  injection hg with _ h2
  revert h2;decide
 have hc0:cap≠0:=by omega
 refine zaU (fun _=>false) [(0,true),(1,true),(2,true),(3,true),(5,true),(6,true),(7,true),(8,true),(9,true),(4,false),(10,false),(11,true)] ((fun i=>i=g)) mixed (by kernel_rfl) ?_;intro gd K x hgd hx hxe hK;have hx0:=za0 hxe;clear hxe
 have c1:zag x (some ⟨b,1,Option.none⟩)=some (.slice (some ⟨g,0,Option.none⟩) bs.length cap):=zad (Ext.at hx0 hb) rfl
 have hgx:=Ext.at hx0 hg
 simp (disch:=first|omega|assumption|rfl) only[go_sem,c1,Nat.zero_add]
 refine⟨fun a ha hb=>(by cases ha;exact hbg hb),fun a ha hb=>(by cases ha;exact hbg hb),?_⟩
 refine zaP (u:= .slice (some ⟨g,0,Option.none⟩) bs.length cap) (vq0) (Lib.run_unsafeSliceData_row _ _ _ _ _ _ hc0) ?_
 refine⟨.inr (Keep.refl _ _),?_⟩
 refine zau (u:= .pointer (some ⟨g,0,Option.none⟩)) (z:=vi bs.length) (vq0) (vq0) (Lib.run_unsafeString_row (P:=Tryz.prog) _ _ _ _ 5 (by rfl) (by rfl) g (cap*1) (by simp[World.shape?,hgx,hcs]) bs h0 (by omega) (by omega) ?_) ?_
 ·intro j y hj
  obtain⟨hj1,hj2⟩:=List.getElem?_eq_some_iff.1 hj
  have hcell:=hown.row
  obtain⟨a,c,e,hc,hgt⟩:=hcell.ext hx0
  injection e with e1 e2 e3
  have h2:=hgt j (by simpa using hj1)
  rw[←e1,List.getElem_map,hj2]at h2
  exact h2
 have hfk:Keep (fun i=>i=g) x (x.freeze ⟨g,0,Option.none⟩ bs.length):=zcg x ⟨g,0,Option.none⟩ bs.length
 refine⟨.inr hfk,?_⟩
 refine hK _ _ ?_;clear hK hgd;clear K;try clear gd
 repeat refine c_r ?_
 refine zaf (.inr rfl) Tryz.ntmps64 rfl (zac (vr0) zae) ?_
 exact⟨rfl,(hx0.mono (fun i _ h=>h.elim)).trans (hfk.mono (fun i _ h=>h▸hU g rfl))⟩
set_option maxRecDepth 100000
theorem zd3(w:World):NamesAt w (.slice Option.none 0 0) []:=⟨[],(Own.nil 0 w 0).row,rfl,fun i h=>absurd h (by simp)⟩
section
variable {α : Type} {cf : α → α → Int} {jn : α → α → α}
end
section
variable {H : Type} {enc : TypeId × Value → H} {P : Program} {w : World} {base : Nat} {sp : Nat → Bool} {held : Bool}
def RdC(enc:TypeId×Value→H)(P:Program)(w:World)(base:Nat)(sp:Nat→Bool)(held:Bool)(t:TypeId)(cs:List Value):Prop:=∃n x,DataW.trod enc P w base sp held n t cs=some x∧∀k∈x.1.weights P t,k≤reachBytes
theorem RdC.one{t:TypeId}{v:Value}(h:RdC enc P w base sp held t [v]):Rd enc P w base sp held t v:=h
theorem Rd.c{t:TypeId}{v:Value}(h:Rd enc P w base sp held t v):RdC enc P w base sp held t [v]:=h
theorem zfk{a:Addr}:∀(k i:Nat) {l:List Value},l.length=k→(∀j (h:j<l.length),w.cell? (a.add (i+j))=some l[j])→zaE w a i k=some l
 |0,_,l,hl,_=>by
  have:l=[]:=List.length_eq_zero_iff.1 hl
  subst this;rfl
 |k+1,i,l,hl,h=>by
  cases l with
  |nil=>cases hl
  |cons v l=>
   have h0:=h 0 (by simp)
   have ih:=zfk (l:=l) k (i+1) (by simpa using hl) (fun j hj=>by
    have:=h (j+1) (by simpa using hj)
    rw[show i+(j+1)=i+1+j from by omega]at this
    simpa using this)
   unfold zaE
   rw[Nat.add_zero]at h0
   rw[h0,ih];rfl
theorem zeX{t e:TypeId}{k:Nat}{v:Value}(h:Rd enc P w base sp held t v)(ht:P.underlying t=some (.slice e))(hc:P.cellsOf e=k):
  ∃L,RowK k w v L∧(∀cs∈L,RdC enc P w base sp held e cs)∧L.length*P.bytesOf e≤reachBytes:=by
 obtain⟨n,x,h,hw⟩:=h
 rcases Go.Deep.open_slice ht h with ⟨h1,_⟩| ⟨a,len,cap,m,q,D,Pl,h1,_,hl,hm,hmm,rfl,hx⟩
 ·simp only[List.cons.injEq,and_true]at h1
  subst h1
  exact⟨[],⟨Option.none,0,rfl,Nat.le_refl _,fun j h=>by simp at h⟩,fun u h=>(by cases h),by simp⟩
 ·simp only[List.cons.injEq,and_true]at h1
  subst h1
  have hml:len≤m:=by rw[hmm];split<;>omega
  simp only[DataW.weights,ht]at hw
  rw[hc]at hx
  obtain⟨V,hV⟩:=Go.Deep.choose_lt (α:=List Value) (p:=fun i cs=>w.cells? base (a.add (i*k)) k=some cs∧DataW.trod enc P w base sp held q e cs=some (D i,Pl i)) hx
  refine⟨(List.range len).map V,⟨some a,cap,by simp,by simpa using hl,fun j hj=>?_⟩,fun u hu=>?_,?_⟩
  ·simp at hj
   obtain⟨_,h2,h3⟩:=World.cells?_some (hV j (by omega)).1
   have e1:((List.range len).map V)[j]'(by simpa using hj)=V j:=by simp
   rw[e1]
   show zaE w (a.add (j*k)) 0 k=_
   refine zfk k 0 h2 (fun i hi=>?_)
   rw[Nat.zero_add,h3 i (by omega)]
   exact List.getElem?_eq_getElem hi
  ·obtain⟨j,hj,rfl⟩:=List.mem_map.1 hu
   simp at hj
   refine⟨_,_,(hV j (by omega)).2,fun q hq=>hw q (List.mem_cons_of_mem _ (List.mem_append_left _ (zbG (d:=D j) ?_ hq)))⟩
   exact List.mem_map.2 ⟨j,by simpa using hj,rfl⟩
  ·have h1:=hw _ (List.mem_cons_self ..)
   have h2:((List.range len).map V).length*P.bytesOf e≤(((List.range len).map D).length+((List.range (m - len)).map fun j=>D (len+j)).length)*P.bytesOf e:=Nat.mul_le_mul (by simp) (Nat.le_refl _)
   omega
theorem zem{e:TypeId}{fs:Array Field}{cs:List Value}(h:RdC enc P w base sp held e cs)(he:P.underlying e=some (.struct fs)):cs.length=P.cellsOf e∧∀(i:Nat) (f:Field),fs[i]? =some f→RdC enc P w base sp held f.type ((cs.drop f.offset).take (P.cellsOf f.type)):=by
 obtain⟨n,x,h,hw⟩:=h
 obtain⟨xs,m,_,rfl,hl,hxl,hf⟩:=DataW.trod_struct he h
 refine⟨hl,fun i f hfi=>?_⟩
 have hi:i<fs.size:=(Array.getElem?_eq_some_iff.1 hfi).1
 have h1:=hf i f hfi
 rw[List.getElem?_eq_getElem (by omega)]at h1
 refine⟨m,_,h1,fun k hk=>hw k ?_⟩
 simp only[DataW.weights,he]
 refine DataW.weights_mem_each (ts:=fs.toList.map (·.type)) (ds:=xs.map (·.1)) (j:=i) (t:=f.type) (d:=xs[i].1) ?_ ?_ k hk
 ·rw[List.getElem?_map]
  rw[show fs.toList[i]? =some f from by simpa using hfi];rfl
 ·rw[List.getElem?_map,List.getElem?_eq_getElem (by omega)];rfl
theorem zhJ{t:TypeId}{k:IntKind}{cs:List Value}(h:RdC enc P w base sp held t cs)(ht:P.underlying t=some (.int k)):∃n,cs=[.int k n]∧(Lit.int k n).wf=true:=by
 obtain⟨n,x,h,_⟩:=h
 obtain⟨m,h1,_,h2⟩:=DataW.trod_int ht h
 exact⟨m,h1,h2⟩
end
theorem rdc_of{H:Type}{enc:TypeId×Value→H}{P:Program}{w:World}{base:Nat}{sp:Nat→Bool}{held:Bool}{t:TypeId}{cs:Array Value}{d:DataW H}{p:List MemPlace}{ts:List TypeId}{ds:List (DataW H)}(h:DataW.Trod enc P w base sp held t (.agg cs) d p)
  (hw:∀x∈DataW.weightsEach P ts ds,x≤reachBytes) {j:Nat} (ht:ts[j]? =some t) (hd:ds[j]? =some d):RdC enc P w base sp held t cs.toList:=by
 obtain⟨n,h⟩:=h
 exact⟨n,_,h,fun k hk=>hw k (DataW.weights_mem_each ht hd k hk)⟩
section
variable {H : Type} {enc : TypeId × Value → H} {P : Program} {w : World} {base : Nat} {sp : Nat → Bool} {held : Bool}
theorem rd_ints6{t e:TypeId}{k:IntKind}{v:Value}(h:Rd enc P w base sp held t v)(ht:P.underlying t=some (.slice e))(hc:P.cellsOf e=1)(he:P.underlying e=some (.int k)):∃l:List Int,Row w v (l.map (.int k))∧∀n∈l,(Lit.int k n).wf=true:=by
 obtain⟨vals,hr,hall,_⟩:=zgd h ht hc
 obtain⟨m,rfl,hm⟩:=zfH (f:=fun n=>Value.int k n) (Q:=fun n=>(Lit.int k n).wf=true) (fun u hu=>by
  obtain⟨n,h1,h2⟩:=zhJ (hall u hu).c he
  exact⟨n,by simpa using h1,h2⟩)
 exact⟨m,hr,hm⟩
theorem wf_u86{n:Int}(h:(Lit.int .u8 n).wf=true):0≤n∧n≤255:=by
 simp[Lit.wf,IntKind.min,IntKind.max,IntKind.signed,IntKind.bits]at h
 omega
end
section
variable {H : Type} {enc : TypeId × Value → H} {w : World} {base : Nat} {sp : Nat → Bool} {held : Bool}
end
set_option maxRecDepth 10000
def Hz(S:Nat→Prop)(A:World)(P:World→Prop):Prop:=∀X,Keep S A X→P X
theorem Hz.now{S:Nat→Prop}{A:World}{P:World→Prop}(h:Hz S A P):P A:=h A (Keep.refl _ _)
section
variable {P : Program} {d : Option Tmp} {ty : TypeId} {ps : String} {af : Array Edge} {g : Option (Nat × Bool)} {ρ : Operand → Value} {w : World} {K : Value → World → Prop}
end
theorem ze4(w:World):Row w (.slice Option.none 0 0) []:=(Own.nil 0 w 0).row
def rawD(T:Int)(bs:List UInt8):DatL:=⟨T,[],[],[],bs⟩
theorem raw_at{w:World}{rv:Value}{T:Int}{bs:List UInt8}(h:Row w rv (bs.map zab)):DatAt w [vi T,.slice Option.none 0 0,.slice Option.none 0 0,.slice Option.none 0 0,rv] (rawD T bs):=⟨_,_,_,_,rfl,zd3 w,ze4 w,ze4 w,h⟩
theorem raw_T{T:Int}{bs:List UInt8}(h:bs.length≤2000):DatT (rawD T bs):=⟨⟨(fun n hn=>by cases hn),(by simp[rawD]),(by simp[rawD]),(fun n hn=>by cases hn),(by simp[rawD]),(fun n hn=>by cases hn),h⟩,(by simp[rawD])⟩
section
variable {P : Program} {d : Option Tmp} {ty : TypeId} {ps : String} {af : Array Edge} {g : Option (Nat × Bool)} {ρ : Operand → Value} {w : World} {K : Value → World → Prop}
theorem zdd{e:TypeId}{cs:Array Value}{i:Nat}{v:Value}(he:P.underlying e=some (.int .u8))(hv:cs[i]? =some v):(part e cs i).run P w= .ok v w:=by
 have hi:(isAgg e).run P w= .ok false w:=by simp[isAgg,underlying,program,Sem.run,he]
 unfold part
 simp only[Sem.run_bind,hi,Result.andThen_ok,Bool.false_eq_true,if_false,hv,Sem.run_pure]
theorem zbQ{e:TypeId}(he:P.underlying e=some (.int .u8))(n:Nat)(a b:UInt8):(Op.equalIn (n+1) e (zab a) (zab b)).run P w= .ok (decide (a=b)) w:=by
 have:((a.toNat:Int)==(b.toNat:Int))=decide (a=b):=by
  by_cases h:a=b
  ·subst h;simp
  ·rw[decide_eq_false h]
   have:a.toNat≠b.toNat:=fun h2=>h (UInt8.toNat_inj.1 h2)
   simp;omega
 simp[Op.equalIn,underlying,program,Sem.run,he,zab,this]
theorem eqIn_arr{t e:TypeId}{inf:TypeInfo}(ht:P.underlying t=some (.array 4 e))(he:P.underlying e=some (.int .u8))(hi:P.info? e=some inf)(hs:inf.size=1)(n:Nat)(a b c d a' b' c' d':UInt8):
  (Op.equalIn (n+2) t (.agg #[zab a,zab b,zab c,zab d]) (.agg #[zab a',zab b',zab c',zab d'])).run P w= .ok (decide ([a,b,c,d]=[a',b',c',d'])) w:=by
 rw[Op.equalIn]
 have hsz:(sizeOf e).run P w= .ok 1 w:=by simp[sizeOf,typeInfo,program,Sem.run,hi,hs]
 have hu:(underlying t).run P w= .ok (.array 4 e) w:=by simp[underlying,program,Sem.run,ht]
 simp only[Sem.run_bind,hu,Result.andThen_ok,hsz,Std.Legacy.Range.forIn_eq_forIn_range',Std.Legacy.Range.size,List.range']
 have p0:∀x0 x1 x2 x3:Value,(part e #[x0,x1,x2,x3] 0).run P w= .ok x0 w:=fun _ _ _ _=>zdd he rfl
 have p1:∀x0 x1 x2 x3:Value,(part e #[x0,x1,x2,x3] 1).run P w= .ok x1 w:=fun _ _ _ _=>zdd he rfl
 have p2:∀x0 x1 x2 x3:Value,(part e #[x0,x1,x2,x3] 2).run P w= .ok x2 w:=fun _ _ _ _=>zdd he rfl
 have p3:∀x0 x1 x2 x3:Value,(part e #[x0,x1,x2,x3] 3).run P w= .ok x3 w:=fun _ _ _ _=>zdd he rfl
 by_cases h1:a=a'
 ·by_cases h2:b=b'
  ·by_cases h3:c=c'
   ·by_cases h4:d=d'
    ·simp[List.forIn_cons,Sem.run_bind,p0,p1,p2,p3,zbQ he,h1,h2,h3,h4]
    ·simp[List.forIn_cons,Sem.run_bind,p0,p1,p2,p3,zbQ he,h1,h2,h3,h4]
   ·simp[List.forIn_cons,Sem.run_bind,p0,p1,p2,p3,zbQ he,h1,h2,h3]
  ·simp[List.forIn_cons,Sem.run_bind,p0,p1,p2,p3,zbQ he,h1,h2]
 ·simp[List.forIn_cons,Sem.run_bind,p0,p1,p2,p3,zbQ he,h1]
theorem op_eqA{t e yt:TypeId}{x y:Operand}{inf:TypeInfo}{a b c d1 a' b' c' d':UInt8}(ht:P.underlying t=some (.array 4 e))(he:P.underlying e=some (.int .u8))(hi:P.info? e=some inf)(hs:inf.size=1)(hg:P.eqGuardType P.depth t=false)
  (hx:ρ x= .agg #[zab a,zab b,zab c,zab d1]) (hy:ρ y= .agg #[zab a',zab b',zab c',zab d']) (h:K (.bool (decide ([a,b,c,d1]=[a',b',c',d']))) w):
  opW P ⟨d,.binOp .eql t x y yt,ty,ps,af,g⟩ ρ w K:=by
 have h2:(Op.equal t (.agg #[zab a,zab b,zab c,zab d1]) (.agg #[zab a',zab b',zab c',zab d'])).run P w= .ok (decide ([a,b,c,d1]=[a',b',c',d'])) w:=eqIn_arr ht he hi hs 9998 a b c d1 a' b' c' d'
 have hr:(do eqGuard .eql t x y (.agg #[zab a,zab b,zab c,zab d1]) (.agg #[zab a',zab b',zab c',zab d']);binOp .eql t (.agg #[zab a,zab b,zab c,zab d1]) (.agg #[zab a',zab b',zab c',zab d']):Sem Value).run P w= .ok (.bool (decide ([a,b,c,d1]=[a',b',c',d']))) w:=by
  simp[eqGuard,binOp,h2,program,Sem.run,hg]
 have:=zaq (P:=P) (K:=K) hr h
 rw[←hx,←hy]at this
 exact this
end
section
variable {P : Program} {d : Option Tmp} {ty : TypeId} {ps : String} {af : Array Edge} {g : Option (Nat × Bool)} {ρ : Operand → Value} {w : World} {K : Value → World → Prop}
theorem zgf{e:TypeId}{cs:Array Value}{i:Nat}{v:Value}(he:(isAgg e).run P w= .ok false w)(hv:cs[i]? =some v):(part e cs i).run P w= .ok v w:=by
 unfold part
 simp only[Sem.run_bind,he,Result.andThen_ok,Bool.false_eq_true,if_false,hv,Sem.run_pure]
theorem eqIn_wd{t:TypeId}{f1 f2:Field}(ht:P.underlying t=some (.struct #[f1,f2]))(h1n:f1.name≠ "_")(h2n:f2.name≠ "_")(o1:f1.offset=0)(o2:f2.offset=1)(hs:P.stoodInHeld t=false)(h1:P.underlying f1.type=some .string)(h2:P.underlying f2.type=some .bool)(n:Nat)(a a':Lab)(b b':Bool):
  (Op.equalIn (n+2) t (.agg #[vs a,.bool b]) (.agg #[vs a',.bool b'])).run P w= .ok (decide ((a,b)=(a',b'))) w:=by
 have k1:(isAgg f1.type).run P w= .ok false w:=by simp[isAgg,underlying,program,Sem.run,h1]
 have k2:(isAgg f2.type).run P w= .ok false w:=by simp[isAgg,underlying,program,Sem.run,h2]
 have p1:∀x y:Value,(part f1.type #[x,y] 0).run P w= .ok x w:=fun _ _=>zgf k1 rfl
 have p2:∀x y:Value,(part f2.type #[x,y] 1).run P w= .ok y w:=fun _ _=>zgf k2 rfl
 have q1:∀a a':Lab,(Op.equalIn (n+1) f1.type (vs a) (vs a')).run P w= .ok (decide (a=a')) w:=fun a a'=>by
  have h0:((⟨a.toArray⟩:ByteArray)==⟨a'.toArray⟩)=decide (a=a'):=by
   show ByteArray.beq _ _=_
   unfold ByteArray.beq
   by_cases h:a=a'
   ·subst h;simp
   ·rw[decide_eq_false h]
    simp[h]
  simp[Op.equalIn,underlying,program,Sem.run,h1,vs,h0]
 have q2:∀b b':Bool,(Op.equalIn (n+1) f2.type (.bool b) (.bool b')).run P w= .ok (decide (b=b')) w:=fun b b'=>by
  cases b<;>cases b'<;>simp[Op.equalIn,underlying,program,Sem.run,h2]
 have hu:(underlying t).run P w= .ok (.struct #[f1,f2]) w:=by simp[underlying,program,Sem.run,ht]
 have hp:(program:Sem Program).run P w= .ok P w:=by simp[program,Sem.run]
 rw[Op.equalIn]
 simp only[Sem.run_bind,hu,hp,Result.andThen_ok,hs,Bool.false_eq_true,if_false]
 by_cases c1:a=a'
 ·by_cases c2:b=b'
  ·simp[List.forIn_cons,Sem.run_bind,p1,p2,q1,q2,c1,c2,h1n,h2n,o1,o2]
  ·simp[List.forIn_cons,Sem.run_bind,p1,p2,q1,q2,c1,c2,h1n,h2n,o1,o2]
 ·simp[List.forIn_cons,Sem.run_bind,p1,p2,q1,q2,c1,h1n,h2n,o1,o2]
theorem op_eqS{t yt:TypeId}{x y:Operand}{f1 f2:Field}{a a':Lab}{b b':Bool}(ht:P.underlying t=some (.struct #[f1,f2]))(h1n:f1.name≠ "_")(h2n:f2.name≠ "_")(o1:f1.offset=0)(o2:f2.offset=1)(hs:P.stoodInHeld t=false)(h1:P.underlying f1.type=some .string)(h2:P.underlying f2.type=some .bool)(hg:P.eqGuardType P.depth t=false)
  (hx:ρ x= .agg #[vs a,.bool b]) (hy:ρ y= .agg #[vs a',.bool b']) (h:K (.bool (decide ((a,b)=(a',b')))) w):
  opW P ⟨d,.binOp .eql t x y yt,ty,ps,af,g⟩ ρ w K:=by
 have e2:(Op.equal t (.agg #[vs a,.bool b]) (.agg #[vs a',.bool b'])).run P w= .ok (decide ((a,b)=(a',b'))) w:=eqIn_wd ht h1n h2n o1 o2 hs h1 h2 9998 a a' b b'
 have hr:(do eqGuard .eql t x y (.agg #[vs a,.bool b]) (.agg #[vs a',.bool b']);binOp .eql t (.agg #[vs a,.bool b]) (.agg #[vs a',.bool b']):Sem Value).run P w= .ok (.bool (decide ((a,b)=(a',b')))) w:=by
  simp[eqGuard,binOp,e2,program,Sem.run,hg]
 have:=zaq (P:=P) (K:=K) hr h
 rw[←hx,←hy]at this
 exact this
end
def zcR(ws:List (Lab×Bool)):Bool:=match ws with|x::_=>decide (x=([92,35],false))| []=>false
theorem zhh{w:World}{t:Int}{wv:Value}{oa:Option Addr}{on oc:Nat}{ws:List (Lab×Bool)}{e:Int}{G:Nat→List Value→World→Prop}(ht1:1≤t)(ht2:t≤65535)(hr:Rows 2 WdC w wv ws)
  (hG:∀B cs x y S,G B cs x→Keep S x y→(∀i,S i→i<B)→G B cs y)
  (hc:∀(b:Nat) (w1:World),Rdr w w1 b ws (.slice oa on oc) 0→Fn Tryz.prog (if zcR ws=true then 105 else 106) #[.pointer (some ⟨b,0,Option.none⟩),vi t] w1 (fun v w'=>(∃cs:List Value,v= .agg cs.toArray∧cs.length=5∧(∀x∈cs,one x=true)∧G w1.heap.size cs w')∧Rdr w w' b [] (.slice oa on oc) e∧Keep (fun i=>i=b) w1 w')):
  Fn Tryz.prog 38 #[vi t,wv,.slice oa on oc] w (fun v w'=>Ext w w'∧(e=0→∃cs:List Value,∃B,v= .tuple #[.agg cs.toArray,vi 0]∧w.heap.size≤B∧G B cs w')∧(¬e=0→v= .tuple #[.agg ([vi 0,.slice Option.none 0 0,.slice Option.none 0 0,.slice Option.none 0 0,.slice Option.none 0 0]:List Value).toArray,vi e])):=by
 obtain⟨wa,wc,rfl,hcap,hget⟩:=hr.open
 refine enter Tryz.func38 Tryz.ntmps38 rfl rfl ?_
 refine go trivial ?_
 refine zap ?_
 intro w1 hE1 hs1 hA
 refine rq ?_;intro gd K hgd hK
 try simp only[go_sem]
 refine⟨by kernel_rfl,?_⟩
 rw[show bdV Tryz.prog 162 [(0,.slice wa ws.length wc),(1,.slice oa on oc)]=some (.agg #[.slice wa ws.length wc,.slice oa on oc,vi 0]) from by kernel_rfl]
 try simp only[go_sem]
 refine hK _ _ ?_;clear hK hgd;clear K;try clear gd
 refine zap ?_
 intro w2 hE2 hs2 hB
 rw[hs1]at hB
 simp only[hs1]
 refine go trivial ?_
 refine zap ?_
 intro w3 hE3 hs3 hC
 have hw2:w2.heap.size=w.heap.size+2:=by omega
 rw[hw2]at hC
 simp only[hw2]
 have hR3:Rdr w w3 (w.heap.size+1) ws (.slice oa on oc) 0:=⟨(hE1.trans hE2).trans hE3,by omega,⟨_,Ext.at hE3 hB,hr⟩,rfl⟩
 refine rgg [(2,20)] (an2 (decide_eq_false (show¬t<1 by omega)) (decide_eq_false (show¬65535<t by omega))) ?_
 refine go trivial ?_
 refine zaM (Q:=fun e' σ' ds' v'=>e'= .normal∧ds'=[]∧v'=w3∧(σ' 0=vi t∧σ' 6= .pointer (some ⟨w.heap.size,0,Option.none⟩)∧σ' 8= .pointer (some ⟨w.heap.size+1,0,Option.none⟩)∧σ' 9= .pointer (some ⟨w.heap.size+2,0,Option.none⟩))∧σ' 25= .bool (zcR ws)) ?_ ?_
 ·cases ws with
  |nil=>
   refine rgg [(3,29)] (show decide ((0:Int)<(([]:List (Lab×Bool)).length:Int))=false from rfl) ?_
   exact⟨rfl,rfl,rfl,⟨vr0,vr0,vr0,vr0⟩,vr0⟩
  |cons x rest=>
   obtain⟨tx,qx⟩:=x
   obtain⟨cs0,g0,hcs⟩:=hget 0 (by simp)
   simp only[List.getElem_cons_zero,Nat.zero_mul,zal]at g0 hcs
   unfold WdC at hcs
   subst hcs
   have g:=zai hR3.ext g0
   obtain⟨xa,rfl⟩:∃x,wa=some x:=by
    cases wa with
    |none=>cases g0
    |some x=>exact⟨x,rfl⟩
   have l0:decide ((0:Int)<((((tx,qx)::rest).length:Nat):Int))=true:=decide_eq_true (by rw[List.length_cons];omega)
   have l0':(0:Int)<((((tx,qx)::rest).length:Nat):Int):=by rw[List.length_cons];omega
   refine rq ?_;intro gd K hgd hK
   have hg3:∀n σ b,zaV gd n σ (some (3,b))=zaD (ev n σ (.tmp 29)) b:=(fun n σ b=>by rw[zak,show gd 3=some 29 from(by rw[hgd];rfl)];rfl)
   try simp (disch:=first|omega|assumption|rfl) only[go_sem,l0,l0',Int.toNat_zero,Nat.zero_mul,zal,g,↓hg3]
   refine⟨by kernel_rfl,?_⟩
   rw[show bdV Tryz.prog 141 [(0,vs [92,35])]=some (.agg #[vs [92,35],.bool false]) from by kernel_rfl]
   try simp (disch:=first|omega|assumption|rfl) only[go_sem,l0,↓hg3]
   refine op_eqS (a:=tx) (b:=qx) (a':=[92,35]) (b':=false) rfl (by decide) (by decide) rfl rfl (by kernel_rfl) rfl rfl (by kernel_rfl) (vr0) (vr0) ?_
   try simp (disch:=first|omega|assumption|rfl) only[go_sem,l0,↓hg3]
   refine hK _ _ ?_;clear hK hgd;clear K;try clear gd
   exact⟨rfl,rfl,rfl,⟨vr0,vr0,vr0,vr0⟩,vr0⟩
 rintro _ σ1 _ w1 ⟨rfl,rfl,rfl,⟨s0,s6,s8,s9⟩,s25⟩
 have hcb:=hc _ _ hR3
 cases hm:zcR ws
 all_goals
  rw[hm]at s25 hcb
  first
   |rw[if_pos rfl]at hcb
   |rw[if_neg (by decide)]at hcb
  refine go (an5 s0 s6 s8 s9 s25) ?_
  refine rq ?_;intro gd K hgd hK
  try simp (disch:=first|omega|assumption|rfl) only[go_sem,s0,s6,s8,s9]
  refine Fn.mono hcb ?_
  rintro _ w4 ⟨⟨cs,rfl,hcs,hcs1,hg4⟩,hR4,hk4⟩
  have hs4:=hk4.size
  have hC4:=(hk4.block (w.heap.size+2) (by omega) (by omega)).trans hC
  try simp (disch:=first|omega|assumption|rfl) only[go_sem,s9]
  refine za1 (P:=Tryz.prog) (t:=33) (l:=cs) hC4 (by simp[hcs]) hcs1 (by rw[hcs];rfl) rfl ?_
  intro w5 hs5 hC5 hk5
  try simp only[go_sem]
  refine hK _ _ ?_;clear hK hgd;clear K;try clear gd
  rw[show w1.heap.size=w.heap.size+3 by omega]at hg4
  have hG5:=hG _ _ _ _ _ hg4 hk5 fun i hi=>by omega
  have hR5:Rdr w w5 (w.heap.size+1) [] (.slice oa on oc) e:=hR4.keep hk5 fun i hi=>by omega
  obtain⟨wv5,hb5,_⟩:=hR5.at'
  have c5:zag w5 (some ⟨w.heap.size+1,2,Option.none⟩)=some (vi e):=zad hb5 rfl
  have hA5:=(hk5.block w.heap.size (by omega) (by omega)).trans ((hk4.block w.heap.size (by omega) (by omega)).trans (Ext.at (hE2.trans hE3) hA))
  have hE5:Ext w w5:=hR5.ext
  by_cases he:e=0
  ·subst he
   have ez:decide ((0:Int)=0)=true:=rfl
   have p9:zao w5 (some ⟨w.heap.size+2,0,Option.none⟩) 5=some cs:=by
    have:=zam (n:=5) hC5 (by simp[hcs])
    exact this
   refine go (an6 s6 s8 s9 c5 ez (Nat.zero_add 2)) ?_
   refine rq ?_;intro gd K hgd hK
   try simp (disch:=first|omega|assumption|rfl) only[go_sem,s6,s9,p9]
   refine za1 (P:=Tryz.prog) (t:=33) (l:=cs) hA5 (by rw[hcs];rfl) hcs1 (by rw[hcs];rfl) rfl ?_
   intro w6 hs6 hB6 hk6
   try simp only[go_sem]
   refine hK _ _ ?_;clear hK hgd;clear K;try clear gd
   refine go trivial ?_
   refine zaf (.inr rfl) Tryz.ntmps38 rfl (zaS (x:=⟨w.heap.size,0,Option.none⟩) (k:=5) ((vr1 s6)) rfl rfl (zam (n:=5) hB6 (by simp[hcs])) (zac (vr0) zae)) ?_
   exact⟨Keep.to_ext hE5 rfl (fun i hi=>by omega) hk6,fun _=>⟨cs,_,rfl,(by omega),hG _ _ _ _ _ hG5 hk6 fun i hi=>by omega⟩,fun h=>absurd rfl h⟩
  ·refine go (an6 s6 s8 s9 c5 (decide_eq_false he) (Nat.zero_add 2)) ?_
   refine zaU (fun _=>false) [(0,true),(1,true),(2,true),(3,true),(4,true),(5,false),(6,true)] ((fun i=>i=w.heap.size)) mixed (by kernel_rfl) ?_;intro gd K x hgd hx hxe hK;have hx0:=za0 hxe;clear hxe
   have c5x:=zaa hx0 c5
   simp (disch:=first|omega|assumption|rfl) only[go_sem]
   refine⟨by kernel_rfl,?_⟩
   rw[show bdV Tryz.prog 33 []=some (.agg #[vi 0,.slice Option.none 0 0,.slice Option.none 0 0,.slice Option.none 0 0,.slice Option.none 0 0]) from by kernel_rfl]
   simp (disch:=first|omega|assumption|rfl) only[go_sem,s6,s8,c5x,Nat.zero_add]
   refine⟨fun a ha hb'=>by cases ha;dsimp only at hb';omega,?_⟩
   refine za1 (P:=Tryz.prog) (t:=33) (l:=[vi 0,.slice Option.none 0 0,.slice Option.none 0 0,.slice Option.none 0 0,.slice Option.none 0 0]) (Ext.at hx0 hA5) rfl (zhV _ _ _ _ _ rfl rfl rfl rfl) rfl rfl ?_
   intro w6 hs6 hB6 hk6
   refine⟨.inr hk6,?_⟩
   simp (disch:=first|omega|assumption|rfl) only[go_sem]
   refine hK _ _ ?_;clear hK hgd;clear K;try clear gd
   refine go trivial ?_
   have hE6:Ext w w6:=Keep.to_ext (hE5.trans hx0) rfl (fun i hi=>by omega) hk6
   refine zaf (.inr rfl) Tryz.ntmps38 rfl (zaS (x:=⟨w.heap.size,0,Option.none⟩) (k:=5) ((vr1 s6)) rfl rfl (zam (n:=5) hB6 rfl) (zac (vr0) zae)) ?_
   exact⟨hE6,fun h=>absurd h he,fun _=>rfl⟩
set_option maxRecDepth 100000
theorem own_hz{B:Nat}{e:TypeId}{w:World}{v:Value}{l:List Value}(h:Own B w e v l):Hz (fun i=>i<B) w (fun X=>Row X v l):=fun X hX=>(h.keep hX fun i hi hs=>by have:=(h.ge hi).1;omega).row
def GD(d:DatL)(B:Nat)(cs:List Value)(w:World):Prop:=Hz (fun i=>i<B) w (fun X=>DatAt X cs d)
theorem GD_keep(d:DatL):∀B cs x y S,GD d B cs x→Keep S x y→(∀i,S i→i<B)→GD d B cs y:=fun B cs x y S h hk hS X hX=>h X ((hk.mono fun i _ hi=>hS i hi).trans hX)
theorem ziT{d:DatL}{B:Nat}{cs:List Value}{w:World}(h:GD d B cs w):cs.length=5∧∀x∈cs,one x=true:=by
 obtain⟨nm,nu,tx,rw',rfl,⟨vals,h1,_,_⟩,h2,h3,h4⟩:=h.now.ex
 exact⟨rfl,zhV _ _ _ _ _ h1.isOne h2.isOne h3.isOne h4.isOne⟩
theorem PkG{w:World}{t:Int}{wv:Value}{oa:Option Addr}{on oc:Nat}{ws:List (Lab×Bool)}{d:DatL}(ht1:1≤t)(ht2:t≤65535)(hr:Rows 2 WdC w wv ws)
  (hc:∀(b:Nat) (w1:World),Rdr w w1 b ws (.slice oa on oc) 0→Fn Tryz.prog (if zcR ws=true then 105 else 106) #[.pointer (some ⟨b,0,Option.none⟩),vi t] w1 (fun v w'=>(∃cs:List Value,v= .agg cs.toArray∧GD d w1.heap.size cs w')∧Rdr w w' b [] (.slice oa on oc) 0∧Keep (fun i=>i=b) w1 w')):
  Fn Tryz.prog 38 #[vi t,wv,.slice oa on oc] w (fun v w'=>Ext w w'∧∃cs:List Value,v= .tuple #[.agg cs.toArray,vi 0]∧GD d w.heap.size cs w'):=by
 refine Fn.mono (zhh (e:=0) (G:=GD d) ht1 ht2 hr (GD_keep d) (fun b w1 h=>Fn.mono (hc b w1 h) ?_)) ?_
 ·rintro v w' ⟨⟨cs,rfl,hg⟩,h2⟩
  exact⟨⟨cs,rfl,(ziT hg).1,(ziT hg).2,hg⟩,h2⟩
 ·rintro v w' ⟨hE,h0,_⟩
  obtain⟨cs,B,rfl,hB,hg⟩:=h0 rfl
  exact⟨hE,cs,rfl,fun X hX=>hg X (hX.mono fun i _ h=>by omega)⟩
def dT:DatL:=⟨16,[],[],[[97,34,98]],[]⟩
set_option maxRecDepth 10000
theorem zcI{w:World}(hW:WX w){c:UInt8}{s:Lab}{ps:List Lab}{n:Nat}(hs:s.length<4000000000)(h:SplC c s ps)(hn:ps.length=n):
  Fn Tryz.prog 139 #[vs s,vs [c]] w (fun v w'=>v= .slice (some ⟨w.heap.size,0,Option.none⟩) n n∧w'.heap[w.heap.size]? =some (.cells (ps.map vs).toArray 9 (0,0))∧Ext w w'):=by
 obtain⟨m,hm⟩:=hW.ml
 refine Fn.of_calls ((Any.strings_Split Tryz.lays146 (by kernel_rfl) ⟨s.toArray⟩ ⟨#[c]⟩ m w (show s.toArray.size<_ by simp;omega) hm (Nat.le_refl 1)).mono ?_)
 rintro _ w' ⟨he,rfl⟩
 subst hn
 rw[h.sp,h.ct,List.map_map]at*
 refine⟨_,he,rfl,?_,Ext.alloc w _⟩
 rw[World.alloc_heap_new]
 rfl
theorem wF_plain{c:UInt8}(h1:c≠92)(h2:c≠34)(h3:c≠32)(s w:Lab)(q:Bool):wF false (c::s) w q=wF false s (w++ [c]) q:=by
 rw[wF,if_neg (fun h=>h1 h.1),if_neg h2]
 cases q
 ·rw[if_neg (by decide),if_neg h3]
 ·rw[if_pos rfl]
theorem wF_run:∀(l s w:Lab) (q:Bool),(∀c∈l,c≠92∧c≠34∧c≠32)→wF false (l++s) w q=wF false s (w++l) q
 | [],s,w,q,_=>by rw[List.nil_append,List.append_nil]
 |c::l,s,w,q,h=>by
  obtain⟨h1,h2,h3⟩:=h c (List.mem_cons_self ..)
  rw[List.cons_append,wF_plain h1 h2 h3,wF_run l s _ q fun x hx=>h x (List.mem_cons_of_mem _ hx),List.append_assoc]
  rfl
theorem dig_ok{c:UInt8}(h:digB c=true):c≠92∧c≠34∧c≠32∧c≠46∧c≠58:=by
 refine⟨?_,?_,?_,?_,?_⟩<;>(rintro rfl;revert h;decide)
def Tok(p:Lab):Prop:=p≠ []∧∀s w:Lab,wF false (p++s) w false=wF false s (w++p) false
theorem zhu{p:Lab}(h0:p≠ [])(h:∀c∈p,c≠92∧c≠34∧c≠32):Tok p:=⟨h0,fun s w=>wF_run p s w false h⟩
theorem zhr{p:Lab}(h:Tok p):wF false p [] false=[(p,false)]:=by
 have:=h.2 [] []
 rw[List.append_nil,List.nil_append]at this
 rw[this,wF,if_neg h.1]
theorem zhZ{n o:Nm}(h:zay n=0):zgR (zaW n) o=(n,0):=by
 have h1:=(zfT h).1
 unfold zaW
 by_cases hn:n=[]
 ·rw[if_pos hn,hn];rfl
 ·rw[if_neg hn]
  have hh:¬(n.flatMap fun l=>zax l++ [46])=[64]∧¬(n.flatMap fun l=>zax l++ [46])=[46]∧¬(n.flatMap fun l=>zax l++ [46])=[]:=by
   cases n with
   |nil=>exact absurd rfl hn
   |cons l n=>
    have:=zhw (errL_ne (h1 l (List.mem_cons_self ..))) ([46]++n.flatMap fun l=>zax l++ [46])
    rw[List.flatMap_cons,List.append_assoc]
    exact this
  have hp:zbh (n.flatMap fun l=>zax l++ [46])=(n,true,0):=by
   unfold zbh
   rw[zf8,if_neg (fun e=>by cases e),zd2 n [] true h1 (fun e=>absurd e hn),List.nil_append]
  unfold zgR
  rw[if_neg hh.1,if_neg hh.2.1,if_neg hh.2.2,hp]
  simp[h]
theorem zfj{d:DatL}(h:zgy d=0):(1≤d.ty∧d.ty≤65535)∧zgY d=true∧(∀n∈d.names,zay n=0)∧(d.ty=15→d.nums.headD 0≤65535)∧d.raw.length≤1024∧∀t∈d.texts,t.length≤255:=by
 unfold zgy at h
 split at h
 ·cases h
 ·rename_i h1
  split at h
  ·cases h
  ·rename_i h2
   split at h
   ·rename_i n hn
    have:=List.find?_some hn
    simp[h]at this
   ·rename_i hn
    rw[List.find?_eq_none]at hn
    split at h
    ·cases h
    ·rename_i h3
     split at h
     ·cases h
     ·rename_i h4
      refine⟨by omega,by simpa using h2,fun n hm=>by simpa using hn n hm,fun h=>by omega,by omega,fun t ht=>?_⟩
      have h5:¬longT d.texts=true:=fun e=>h4 (.inr e)
      unfold longT at h5
      rw[List.any_eq_true]at h5
      by_cases h6:t.length≤255
      ·exact h6
      ·exact absurd ⟨t,ht,decide_eq_true (by omega)⟩ h5
theorem zcx{c:UInt8}{ps:List Lab}{Q:UInt8→Prop}(hc:Q c)(h:∀p∈ps,∀x∈p,Q x):∀x∈za6 [c] ps,Q x:=fun x hx=>by
 cases ps with
 |nil=>cases hx
 |cons p r=>
  rcases List.mem_append.1 (show x∈p++r.flatMap fun y=>[c]++y from hx) with h1|h1
  ·exact h p (List.mem_cons_self ..) x h1
  ·obtain⟨y,hy,hxy⟩:=List.mem_flatMap.1 h1
   rcases List.mem_append.1 hxy with h2|h2
   ·rw[List.mem_singleton.1 h2];exact hc
   ·exact h y (List.mem_cons_of_mem _ hy) x h2
theorem zgk{c:UInt8}{ps:List Lab}(h0:ps≠ [])(h:∀p∈ps,p≠ []):za6 [c] ps≠ []:=by
 cases ps with
 |nil=>exact absurd rfl h0
 |cons p r=>
  intro e
  have:=List.append_eq_nil_iff.1 (show p++r.flatMap (fun y=>[c]++y)=[] from e)
  exact h p (List.mem_cons_self ..) this.1
theorem mark_no{p:Lab}{q:Bool}{r:List (Lab×Bool)}(h:q=true∨p≠ [92,35]):zcR ((p,q)::r)=false:=by
 show decide ((p,q)=(([92,35]:Lab),false))=false
 refine decide_eq_false fun e=>?_
 have e1:=congrArg Prod.fst e
 have e2:=congrArg Prod.snd e
 rcases h with h|h
 ·rw[h]at e2;cases e2
 ·exact h e1
theorem mark_dig{p:Lab}{r:List (Lab×Bool)}(h:∀c∈p,c≠92):zcR ((p,false)::r)=false:=mark_no (.inr fun e=>h 92 (by rw[e];simp) rfl)
theorem SplC.p{s:Lab}{ps:List Lab}(h:SplC 46 s ps):SplP s ps:=⟨h.sp,h.ct⟩
theorem octP_dec(c:UInt8):octP (Lib.decDigits c.toNat)=zab c:=by
 have hc:=c.toNat_lt
 unfold octP
 rw[zeB (by omega)]
 simp
theorem zfg:∀l:List UInt8,zg3 0 (l.map fun c=>Lib.decDigits c.toNat)=0
 | []=>rfl
 |c::l=>by
  have hc:=c.toNat_lt
  have ih:=zfg l
  unfold zg3 at*
  rw[List.map_cons,List.foldl_cons,zeB (by omega)]
  exact ih
section
variable {w : World} {wv : Value} {oa : Option Addr} {on oc : Nat} {o : Nm} {d : DatL}
theorem back1(hW:WX w)(hc:zgy d=0)(ht:d.ty=1)(hr:Rows 2 WdC w wv (wF false (zeN hexU d) [] false)):Fn Tryz.prog 38 #[vi d.ty,wv,.slice oa on oc] w (fun v w'=>Ext w w'∧∃cs:List Value,v= .tuple #[.agg cs.toArray,vi 0]∧GD d w.heap.size cs w'):=by
 obtain⟨⟨t1,t2⟩,hf,hnm,_,_,_⟩:=zfj hc
 obtain⟨h1,h2,h3,h4⟩:=zih hf (a:=0) (c:=0) (r:=4) (by rw[ht];rfl)
 have h4:=h4 (by decide)
 have e1:=ze3 h1
 have e2:=ze3 h2
 obtain⟨ps,hps⟩:∃ps,(d.raw.map fun c=>Lib.decDigits c.toNat)=ps:=⟨_,rfl⟩
 have hp4:ps.length=4:=by rw[←hps,List.length_map];omega
 have hpd:∀p∈ps,p≠ []∧p.length≤20∧∀c∈p,digB c=true:=fun p hp=>by
  rw[←hps]at hp
  obtain⟨c,_,rfl⟩:=List.mem_map.1 hp
  have hcl:=c.toNat_lt
  exact⟨zgv _,by have:=zbk 19 c.toNat (by omega);omega,zb3 _⟩
 have hch:∀c∈za6 [46] ps,c≠92∧c≠34∧c≠32:=zcx (by decide) fun p hp c hc=>by
  have:=dig_ok ((hpd p hp).2.2 c hc)
  exact⟨this.1,this.2.1,this.2.2.1⟩
 have hne:za6 [46] ps≠ []:=zgk (fun e=>by rw[e]at hp4;cases hp4) fun p hp=>(hpd p hp).1
 have hlen:(za6 [46] ps).length≤1000:=by
  have:=zew [46] ps
  have h2:=zbc (m:=20) (l:=ps) fun p hp=>(hpd p hp).2.1
  simp at this;omega
 rw[tx_one hf ht,hps,zhr (zhu hne hch)]at hr
 have hsp:SplC 46 (za6 [46] ps) ps:=by
  cases ps with
  |nil=>cases hp4
  |cons p r=>exact zdv 46 r p fun x hx e=>absurd ((hpd x hx).2.2 46 e) (by decide)
 rw[ht]
 refine PkG (by decide) (by decide) hr fun b w1 h=>?_
 rw[if_neg (by rw[mark_dig fun c hc=>(hch c hc).1];decide)]
 refine Fn.mono (own1_ok hW h (by omega) hsp.p (by omega) fun p hp=>by have:=(hpd p hp).2.1;omega) ?_
 rintro _ w' ⟨⟨rv,rfl,hown⟩,hR,hk⟩
 rw[if_pos hp4,if_neg (by decide),←hps,zfg]at hR
 have hrow:ps.map octP=d.raw.map zab:=by
  rw[←hps,List.map_map]
  exact List.map_congr_left fun c _=>octP_dec c
 rw[hrow]at hown
 exact⟨⟨_,rfl,fun X hX=>⟨_,_,_,_,by rw[ht],by rw[e1];exact zd3 X,by rw[e2];exact ze4 X,by rw[h3];exact ze4 X,own_hz hown X hX⟩⟩,hR,hk⟩
end
structure za3 where
 o:Nm
 path:Lab
structure SrvL where
 host:Nm
 addr:List UInt8
 places:List za3
structure za4 where
 servers:List SrvL
 roots:List Int
 rw:Int
 rf:Int
structure PlaceC(w:World)(cs:List Value)(p:za3):Prop where
 ex:∃ov,cs=[ov,vs p.path]∧Row w ov (p.o.map vs)
structure SrvC(w:World)(cs:List Value)(s:SrvL):Prop where
 ex:∃nv a b c d pv,cs=[nv,zab a,zab b,zab c,zab d,pv]∧s.addr=[a,b,c,d]∧Row w nv (s.host.map vs)∧Rows 2 (PlaceC w) w pv s.places
structure ConfAt(w:World)(cs:List Value)(c:za4):Prop where
 ex:∃sv rv,cs=[sv,rv,vi c.rw,vi c.rf]∧Rows 6 (SrvC w) w sv c.servers∧Row w rv (c.roots.map vi)
theorem PlaceC.ext{w x:World}{cs:List Value}{p:za3}(h:PlaceC w cs p)(hE:Ext w x):PlaceC x cs p:=by
 obtain⟨ov,e,h1⟩:=h.ex
 exact⟨ov,e,h1.ext hE⟩
theorem SrvC.ext{w x:World}{cs:List Value}{z:SrvL}(h:SrvC w cs z)(hE:Ext w x):SrvC x cs z:=by
 obtain⟨nv,a,b,c,d,zv,e,ha,h1,h2⟩:=h.ex
 exact⟨nv,a,b,c,d,zv,e,ha,h1.ext hE,(h2.ext hE).to fun _ _ h=>PlaceC.ext h hE⟩
theorem ConfAt.ext{w x:World}{cs:List Value}{z:za4}(h:ConfAt w cs z)(hE:Ext w x):ConfAt x cs z:=by
 obtain⟨hv,rv,e,h1,h2⟩:=h.ex
 exact⟨hv,rv,e,(h1.ext hE).to fun _ _ h=>SrvC.ext h hE,h2.ext hE⟩
structure Sh(n:Nm):Prop where
 len:n.length≤130
 lb:∀l∈n,l.length≤100
theorem Sh.m{n:Nm}(h:Sh n):NmM n:=⟨fun l hl=>by have:=h.lb l hl;omega,by have:=h.len;omega⟩
structure FewC(c:za4):Prop where
 sl:c.servers.length≤20
 rl:c.roots.length≤20
 s:∀s∈c.servers,Sh s.host∧s.places.length≤20∧∀p∈s.places,Sh p.o∧p.path.length≤50
theorem zec(w:World){a:Value}{n:Nm}(ha:Row w a (n.map vs)):
  Fn Tryz.prog 109 #[a] w (fun v w'=>Ext w w'∧∃t,v= .bool t∧(t=true→Sh n)):=by
 obtain⟨a1,c1,rfl,_,h1⟩:=ha
 simp only[List.length_map,List.getElem_map]at h1 ⊢
 refine enter Tryz.func109 Tryz.ntmps109 rfl rfl ?_
 repeat refine c_r ?_
 refine rg0 ?_
 repeat refine c_r ?_
 by_cases hn:(n.length:Int)>130
 ·refine rg1 (decide_eq_true hn) ?_
  repeat refine c_r ?_
  refine wt trivial ?_
  repeat (first|refine c_r ?_|refine rg0 ?_)
  refine rt0 Tryz.ntmps109 ?_
  exact⟨Keep.refl _ _,_,rfl,fun h=>by cases h⟩
 refine rg1 (decide_eq_false hn) ?_
 repeat refine c_r ?_
 refine wf trivial ?_
 repeat refine c_r ?_
 refine rg0 ?_
 repeat refine c_r ?_
 refine zaR (fun m σ ds A=>ds=[]∧∃(i:Nat),i+m=n.length∧σ 3=vi i∧σ 0= .slice a1 n.length c1∧Ext w A∧∀j (h:j<n.length),j<i→n[j].length≤100) n.length ?_ ?_
 ·exact⟨rfl,0,by omega,vr0,vq0,Keep.refl _ _,fun j h h2=>absurd h2 (by omega)⟩
 rintro m σ ds A ⟨rfl,i,him,s3,s0,hEA,ht⟩
 repeat refine c_r ?_
 refine rg2 s3 s0 ?_
 repeat refine c_r ?_
 refine wc0 ?_ ?_
 ·intro hlt
  simp only[decide_eq_true_eq]at hlt
  have hi:i<n.length:=by omega
  have hi0:(0:Int)≤(i:Int):=by omega
  have hi1':(i:Int)+1=((i+1:Nat):Int):=by push_cast;rfl
  have g1:=zaa hEA (h1 i hi)
  obtain⟨x1,rfl⟩:=Option.isSome_iff_exists.1 (zaj (h1 i hi))
  repeat refine c_r ?_
  refine rq ?_;intro gd K hgd hK;simp (disch:=first|omega|assumption|rfl) only[go_sem,s3,s0,hi0,hlt,g1,Nat.mul_one];refine hK _ _ ?_;clear hK hgd;clear K gd
  repeat refine c_r ?_
  by_cases hl:(n[i].length:Int)>100
  ·refine wt (decide_eq_true hl) ?_
   repeat (first|refine c_r ?_|refine rg0 ?_)
   refine rt0 Tryz.ntmps109 ?_
   exact⟨hEA,_,rfl,fun h=>by cases h⟩
  ·refine wf (decide_eq_false hl) ?_
   repeat refine c_r ?_
   refine rg2 s3 hi1' ?_
   repeat refine c_r ?_
   refine⟨m - 1,by omega,rfl,i+1,by omega,vq0,(vq1 s0),hEA,fun j hj hji=>?_⟩
   by_cases hj2:j=i
   ·subst hj2;omega
   ·exact ht j hj (by omega)
 ·intro hge
  simp only[decide_eq_false_iff_not]at hge
  repeat (first|refine c_r ?_|refine rg0 ?_)
  refine rt0 Tryz.ntmps109 ?_
  refine⟨hEA,_,rfl,fun _=>⟨by omega,fun l hl=>?_⟩⟩
  obtain⟨j,hj,rfl⟩:=List.mem_iff_getElem.1 hl
  exact ht j hj (by omega)
def zbF(p:Lab):Prop:=p≠ []∧∀c∈p,32<c.toNat
theorem RPath_ok(w:World){l:Lab}(hl:l.length≤1000000):
  Fn Tryz.prog 177 #[vs l] w (fun v w'=>Ext w w'∧∃t,v= .bool t∧(t=true→zbF l)):=by
 refine enter Tryz.func177 Tryz.ntmps177 rfl rfl ?_
 refine go trivial ?_
 refine zbq l.length (fun i σ v=>(σ 0=vs l∧σ 3=vi i)∧v=w∧∀c∈l.take i,32<c.toNat) ?_ ?_ ?_
 ·exact⟨⟨vr0,vr0⟩,rfl,fun c hc=>by simp at hc⟩
 ·rintro i σ _ hi r ⟨⟨s0,s3⟩,rfl,ht⟩
  obtain⟨c,hc⟩:∃c,l[i]=c:=⟨_,rfl⟩
  have hin:(i:Int).toNat<l.length:=by omega
  have hc2:l[(i:Int).toNat]'hin=c:=hc
  have b4:((i:Nat):Int).toNat=i:=rfl
  have hbc:zab c= .int .u8 (c.toNat:Int):=rfl
  by_cases h:c.toNat≤32
  ·have d:decide ((c.toNat:Int)≤32)=true:=decide_eq_true (by omega)
   refine go (an8 s0 s3 r hc2 hc b4 hbc d) ?_
   refine rt0 Tryz.ntmps177 ?_
   exact⟨Keep.refl _ _,_,rfl,fun h=>by cases h⟩
  ·have d:decide ((c.toNat:Int)≤32)=false:=decide_eq_false (by omega)
   refine go (an8 s0 s3 r hc2 hc b4 hbc d) ?_
   refine⟨rfl,⟨(vq1 s0),(vq1 r)⟩,rfl,fun x hx=>?_⟩
   rw[List.take_succ_eq_append_getElem hi,hc]at hx
   rcases List.mem_append.1 hx with h1|h1
   ·exact ht x h1
   ·rw[List.mem_singleton.1 h1];omega
 ·rintro σ _ r ⟨⟨s0,s3⟩,rfl,ht⟩
  refine go (an3 s0 s3 r) ?_
  refine rt0 Tryz.ntmps177 ?_
  rw[List.take_length]at ht
  exact⟨Keep.refl _ _,_,rfl,fun h=>⟨by simpa using h,ht⟩⟩
theorem zcC{w:World}{p:Option Addr}{k j:Nat}{cs:List Value}{u:Value}(h:zao w p k=some cs)(hj:cs[j]? =some u):zag w (adr p j)=some u:=by
 obtain⟨hj1,hj2⟩:=List.getElem?_eq_some_iff.1 hj
 have:=zbf h hj1
 rwa [hj2]at this
theorem zf6{w:World}{sv:Value}{l:List SrvL}(hs:Rows 6 (SrvC w) w sv l):∃a c,sv= .slice a l.length c∧∀i (h:i<l.length),∃xa xi x5 nv ap cp,a=some xa∧adr (some xa) (i*6)=some xi∧adr (some xi) 5=some x5∧zag w (some xi)=some nv∧Row w nv (l[i].host.map vs)∧
  zag w (some x5)=some (.slice ap l[i].places.length cp)∧(∃b1 b2 b3 b4,l[i].addr=[b1,b2,b3,b4]∧zao w (some xi) 6=some [nv,zab b1,zab b2,zab b3,zab b4,.slice ap l[i].places.length cp])∧Rows 2 (PlaceC w) w (.slice ap l[i].places.length cp) l[i].places∧
  ∀k (h:k<l[i].places.length),∃xp xk xk1 ov,ap=some xp∧adr (some xp) (k*2)=some xk∧adr (some xk) 1=some xk1∧zag w (some xk)=some ov∧Row w ov (l[i].places[k].o.map vs)∧zag w (some xk1)=some (vs l[i].places[k].path):=by
 obtain⟨a,c,rfl,_,hg⟩:=hs.open
 refine⟨a,c,rfl,fun i hi=>?_⟩
 obtain⟨cs,hcs,hS⟩:=hg i hi
 obtain⟨nv,b1,b2,b3,b4,pv,rfl,ha,hn,hp⟩:=hS.ex
 have hp0:=hp
 obtain⟨ap,cp,rfl,_,hgp⟩:=hp.open
 obtain⟨xa,rfl⟩:=Option.isSome_iff_exists.1 (zaF hcs)
 obtain⟨xi,hxi⟩:∃xi,adr (some xa) (i*6)=some xi:=⟨_,rfl⟩
 obtain⟨x5,hx5⟩:∃x,adr (some xi) 5=some x:=⟨_,rfl⟩
 rw[hxi]at hcs
 have h0:=zcC (j:=0) hcs rfl
 rw[zal]at h0
 have h5:=zcC (j:=5) hcs rfl
 rw[hx5]at h5
 refine⟨xa,xi,x5,nv,ap,cp,rfl,hxi,hx5,h0,hn,h5,⟨b1,b2,b3,b4,ha,hcs⟩,hp0,fun k hk=>?_⟩
 obtain⟨c2,hc2,hP⟩:=hgp k hk
 obtain⟨ov,rfl,ho⟩:=hP.ex
 obtain⟨xp,rfl⟩:=Option.isSome_iff_exists.1 (zaF hc2)
 obtain⟨xk,hxk⟩:∃xi,adr (some xp) (k*2)=some xi:=⟨_,rfl⟩
 obtain⟨xk1,hxk1⟩:∃x,adr (some xk) 1=some x:=⟨_,rfl⟩
 rw[hxk]at hc2
 have g0:=zcC (j:=0) hc2 rfl
 rw[zal]at g0
 have g1:=zcC (j:=1) hc2 rfl
 rw[hxk1]at g1
 exact⟨xp,xk,xk1,ov,rfl,hxk,hxk1,g0,ho,g1⟩
theorem Few15_ok(w:World){cs:List Value}{c:za4}(hc:ConfAt w cs c):
  Fn Tryz.prog 42 #[.agg cs.toArray] w (fun v w'=>Ext w w'∧∃t,v= .bool t∧(t=true→FewC c)):=by
 obtain⟨sv,rv,rfl,hs,hr⟩:=hc.ex
 obtain⟨aS,cS,rfl,hat⟩:=zf6 hs
 obtain⟨ar,cr,rfl,_⟩:=hr
 simp only[List.length_map]
 refine enter Tryz.func42 Tryz.ntmps42 rfl rfl ?_
 repeat refine c_r ?_
 refine rg0 ?_
 repeat refine c_r ?_
 refine zap ?_
 intro w1 hE1 hs1 hA
 have p0:zag w1 (some ⟨w.heap.size,0,Option.none⟩)=some (.slice aS c.servers.length cS):=zad hA rfl
 have p1:zag w1 (some ⟨w.heap.size,1,Option.none⟩)=some (.slice ar c.roots.length cr):=zad hA rfl
 repeat refine c_r ?_
 by_cases h1:(c.servers.length:Int)>20
 ·refine rgg [(4,9)] (an3 p0 Nat.add_zero (decide_eq_true h1)) ?_
  repeat refine c_r ?_
  refine wt trivial ?_
  repeat (first|refine c_r ?_|refine rg0 ?_)
  refine rt0 Tryz.ntmps42 ?_
  exact⟨hE1,_,rfl,fun h=>by cases h⟩
 by_cases h2:(c.roots.length:Int)>20
 ·refine rgg [(4,9)] (an6 p0 Nat.add_zero (decide_eq_false h1) p1 Nat.zero_add (decide_eq_true h2)) ?_
  repeat refine c_r ?_
  refine wt trivial ?_
  repeat (first|refine c_r ?_|refine rg0 ?_)
  refine rt0 Tryz.ntmps42 ?_
  exact⟨hE1,_,rfl,fun h=>by cases h⟩
 refine rgg [(4,9)] (an6 p0 Nat.add_zero (decide_eq_false h1) p1 Nat.zero_add (decide_eq_false h2)) ?_
 repeat refine c_r ?_
 refine wf trivial ?_
 repeat refine c_r ?_
 refine rg0 ?_
 repeat refine c_r ?_
 refine zaR (fun m σ ds A=>ds=[]∧∃(i:Nat),i+m=c.servers.length∧σ 3=vi i∧σ 1= .pointer (some ⟨w.heap.size,0,Option.none⟩)∧Ext w1 A∧∀j (h:j<c.servers.length),j<i→Sh c.servers[j].host∧c.servers[j].places.length≤20∧∀p∈c.servers[j].places,Sh p.o∧p.path.length≤50) c.servers.length ?_ ?_
 ·exact⟨rfl,0,by omega,vr0,vq0,Keep.refl _ _,fun j h h2=>absurd h2 (by omega)⟩
 rintro m σ ds A ⟨rfl,i,him,s3,s1,hEA,ht⟩
 have p0A:=zaa hEA p0
 repeat refine c_r ?_
 refine rg4 s3 s1 p0A Nat.add_zero ?_
 repeat refine c_r ?_
 refine wc0 ?_ ?_
 ·intro hlt
  simp only[decide_eq_true_eq]at hlt
  have hi:i<c.servers.length:=by omega
  have hi0:(0:Int)≤(i:Int):=by omega
  have hi1':(i:Int)+1=((i+1:Nat):Int):=by push_cast;rfl
  obtain⟨xa,xi,x5,nv,ap,cp,rfl,hxi,hx5,g0,hn,g5,_,_,hpl⟩:=hat i hi
  obtain⟨s,hse⟩:∃s,c.servers[i]=s:=⟨_,rfl⟩
  rw[hse]at hn g5
  simp only[hse]at hpl
  have hz0:adr (some xi) 0=some xi:=zal _
  have g0A:=zaa (hE1.trans hEA) g0
  repeat refine c_r ?_
  refine rcg [(8,30)] (an9 s3 s1 p0A Nat.add_zero hi0 hlt hxi hz0 g0A) (zec A (hn.ext (hE1.trans hEA))) ?_
  rintro _ A1 ⟨hE2,t,rfl,hsh⟩
  have hEA1:=hEA.trans hE2
  have p0B:=zaa hEA1 p0
  have g5B:=zaa (hE1.trans hEA1) g5
  cases t with
  |false=>
   refine reg [(8,30)] Bool.not_false ?_
   repeat refine c_r ?_
   refine wt trivial ?_
   repeat (first|refine c_r ?_|refine rg0 ?_)
   refine rt0 Tryz.ntmps42 ?_
   exact⟨hE1.trans hEA1,_,rfl,fun h=>by cases h⟩
  |true=>
  by_cases h3:(s.places.length:Int)>20
  ·refine reg [(8,30)] (an2 (an9 s3 s1 p0B Nat.add_zero hi0 hlt hxi hx5 g5B) (an2 Bool.not_true (decide_eq_true h3))) ?_
   repeat refine c_r ?_
   refine wt trivial ?_
   repeat (first|refine c_r ?_|refine rg0 ?_)
   refine rt0 Tryz.ntmps42 ?_
   exact⟨hE1.trans hEA1,_,rfl,fun h=>by cases h⟩
  refine reg [(8,30)] (an2 (an9 s3 s1 p0B Nat.add_zero hi0 hlt hxi hx5 g5B) (an2 Bool.not_true (decide_eq_false h3))) ?_
  repeat refine c_r ?_
  refine wf trivial ?_
  repeat refine c_r ?_
  refine rg0 ?_
  repeat refine c_r ?_
  refine zaR (fun m σ ds B=>ds=[]∧∃(k:Nat),k+m=s.places.length∧σ 4=vi k∧σ 3=vi i∧σ 1= .pointer (some ⟨w.heap.size,0,Option.none⟩)∧Ext w1 B∧∀j (h:j<s.places.length),j<k→Sh s.places[j].o∧s.places[j].path.length≤50) s.places.length ?_ ?_
  ·exact⟨rfl,0,by omega,vr0,(vq1 s3),(vq1 s1),hEA1,fun j h h2=>absurd h2 (by omega)⟩
  clear s3 s1
  rintro m2 σ2 ds2 B ⟨rfl,k,hkm,s4,s3,s1,hEB,ht2⟩
  have p0C:=zaa hEB p0
  have g5C:=zaa (hE1.trans hEB) g5
  repeat refine c_r ?_
  refine rg9 s4 s3 s1 (an3 p0C Nat.add_zero g5C) hi0 hlt hxi hx5 trivial ?_
  repeat refine c_r ?_
  refine wc0 ?_ ?_
  ·intro hlt2
   simp only[decide_eq_true_eq]at hlt2
   have hk:k<s.places.length:=by omega
   have hk0:(0:Int)≤(k:Int):=by omega
   have hk1':(k:Int)+1=((k+1:Nat):Int):=by push_cast;rfl
   obtain⟨xp,xk,xk1,ov,rfl,hxk,hxk1,f0,ho,f1⟩:=hpl k hk
   have hz1:adr (some xk) 0=some xk:=zal _
   have f0C:=zaa (hE1.trans hEB) f0
   repeat refine c_r ?_
   refine rcg [(12,63)] (an2 (an9 s4 s3 s1 p0C Nat.add_zero g5C hi0 hlt hxi) (an7 hx5 hk0 hlt2 hxk hz1 f0C trivial)) (zec B (ho.ext (hE1.trans hEB))) ?_
   rintro _ B1 ⟨hE3,t,rfl,hsh2⟩
   have hEB1:=hEB.trans hE3
   cases t with
   |false=>
    refine reg [(12,63)] Bool.not_false ?_
    repeat refine c_r ?_
    refine wt trivial ?_
    repeat (first|refine c_r ?_|refine rg0 ?_)
    refine rt0 Tryz.ntmps42 ?_
    exact⟨hE1.trans hEB1,_,rfl,fun h=>by cases h⟩
   |true=>
   have p0D:=zaa hEB1 p0
   have g5D:=zaa (hE1.trans hEB1) g5
   have f1D:=zaa (hE1.trans hEB1) f1
   by_cases h4:((s.places[k].path).length:Int)>50
   ·refine reg [(12,63)] (an3 (an9 s4 s3 s1 p0D Nat.add_zero g5D hi0 hlt hxi) (an6 hx5 hk0 hlt2 hxk hxk1 f1D) (an2 Bool.not_true (decide_eq_true h4))) ?_
    repeat refine c_r ?_
    refine wt trivial ?_
    repeat (first|refine c_r ?_|refine rg0 ?_)
    refine rt0 Tryz.ntmps42 ?_
    exact⟨hE1.trans hEB1,_,rfl,fun h=>by cases h⟩
   refine reg [(12,63)] (an3 (an9 s4 s3 s1 p0D Nat.add_zero g5D hi0 hlt hxi) (an6 hx5 hk0 hlt2 hxk hxk1 f1D) (an2 Bool.not_true (decide_eq_false h4))) ?_
   repeat refine c_r ?_
   refine wf trivial ?_
   repeat refine c_r ?_
   refine rg2 s4 hk1' ?_
   repeat refine c_r ?_
   refine⟨m2 - 1,by omega,rfl,k+1,by omega,vq0,(vq1 s3),(vq1 s1),hEB1,fun j hj hjk=>?_⟩
   by_cases hj2:j=k
   ·subst hj2;exact⟨hsh2 rfl,by omega⟩
   ·exact ht2 j hj (by omega)
  ·intro hge2
   simp only[decide_eq_false_iff_not]at hge2
   repeat refine c_r ?_
   refine rg2 s3 hi1' ?_
   repeat refine c_r ?_
   refine⟨m - 1,by omega,rfl,i+1,by omega,vq0,(vq1 s1),hEB,fun j hj hji=>?_⟩
   by_cases hj2:j=i
   ·subst hj2
    rw[hse]
    refine⟨hsh rfl,by omega,fun p hp=>?_⟩
    obtain⟨k2,hk2,rfl⟩:=List.mem_iff_getElem.1 hp
    exact ht2 k2 hk2 (by omega)
   ·exact ht j hj (by omega)
 ·intro hge
  simp only[decide_eq_false_iff_not]at hge
  repeat (first|refine c_r ?_|refine rg0 ?_)
  refine rt0 Tryz.ntmps42 ?_
  refine⟨hE1.trans hEA,_,rfl,fun _=>⟨by omega,by omega,fun s hs=>?_⟩⟩
  obtain⟨j,hj,rfl⟩:=List.mem_iff_getElem.1 hs
  exact ht j hj (by omega)
theorem Sh.lb9{n:Nm}(h:Sh n):(∀l∈n,l.length≤1000000000)∧n.length≤1000000000:=⟨fun l hl=>by have:=h.lb l hl;omega,by have:=h.len;omega⟩
structure SrvOk(s:SrvL):Prop where
 host:zay s.host=0
 places:∀p∈s.places,zay p.o=0∧zbF p.path
theorem ziH(w:World){cs:List Value}{c:za4}(hc:ConfAt w cs c)(hf:FewC c){i:Nat}(hi:i<c.servers.length):
  Fn Tryz.prog 110 #[.agg cs.toArray,vi i] w (fun v w'=>Ext w w'∧∃e,v=vi e∧(e=0→SrvOk c.servers[i])):=by
 obtain⟨sv,rv,rfl,hs,hr⟩:=hc.ex
 obtain⟨aS,cS,rfl,hat⟩:=zf6 hs
 obtain⟨ar,cr,rfl,_⟩:=hr
 simp only[List.length_map]
 have hsl:=hf.sl
 refine enter Tryz.func110 Tryz.ntmps110 rfl rfl ?_
 repeat refine c_r ?_
 refine rg0 ?_
 repeat refine c_r ?_
 refine zap ?_
 intro w1 hE1 hs1 hA
 have p0:zag w1 (some ⟨w.heap.size,0,Option.none⟩)=some (.slice aS c.servers.length cS):=zad hA rfl
 obtain⟨xa,xi,x5,nv,ap,cp,rfl,hxi,hx5,g0,hn,g5,⟨b1,b2,b3,b4,hadr,hcs⟩,hpr,hpl⟩:=hat i hi
 obtain⟨s,hse⟩:∃s,c.servers[i]=s:=⟨_,rfl⟩
 obtain⟨fs1,fs2,fs3⟩:=hf.s s (hse▸List.getElem_mem hi)
 rw[hse]at hn g5 hadr hcs hpr
 simp only[hse]at hpl
 have n1:=hn.isOne
 have i0:(0:Int)≤(i:Int):=by omega
 have i1:(i:Int)<(c.servers.length:Int):=by omega
 have d:=zai hE1 hcs
 repeat refine c_r ?_
 refine rq ?_;intro gd K hgd hK
 try simp (disch:=first|omega|assumption|rfl) only[go_sem,p0,Nat.add_zero,i0,i1,hxi,d]
 refine zbg (P:=Tryz.prog) (l:=[nv,zab b1,zab b2,zab b3,zab b4,.slice ap s.places.length cp]) rfl (fun v hv=>by simp at hv;rcases hv with rfl|rfl|rfl|rfl|rfl|rfl<;>first|exact n1|rfl) rfl rfl ?_
 intro w2 hE2 hs2 hB
 try simp only[go_sem]
 refine hK _ _ ?_;clear hK hgd;clear K;try clear gd
 obtain⟨b5,hb5⟩:∃b,w1.heap.size=b:=⟨_,rfl⟩
 rw[hb5]at hB ⊢
 have hE12:=hE1.trans hE2
 have p02:=zaa hE2 p0
 have q0:zag w2 (some ⟨b5,0,Option.none⟩)=some nv:=zad hB rfl
 have q1:zao w2 (some ⟨b5,1,Option.none⟩) 4=some [zab b1,zab b2,zab b3,zab b4]:=by
  have h6:=zam (n:=6) (l:=[nv,zab b1,zab b2,zab b3,zab b4,.slice ap s.places.length cp]) hB rfl
  have h5:=zb6 (m:=1) (k:=5) h6
  rw[zbb]at h5
  exact zbB (m:=4) (k:=1) h5
 have q5:zag w2 (some ⟨b5,5,Option.none⟩)=some (.slice ap s.places.length cp):=zad hB rfl
 repeat refine c_r ?_
 refine rc (an2 q0 Nat.add_zero) (zcL w2 nv s.host (hn.ext hE12) fs1.lb9.1 fs1.lb9.2) ?_
 rintro _ w3 ⟨rfl,hE3⟩
 refine re trivial ?_
 have hE23:=hE12.trans hE3
 repeat refine c_r ?_
 by_cases hck:zay s.host=0
 rotate_left
 ·refine rg1 (decide_eq_false hck) ?_
  repeat refine c_r ?_
  refine wt Bool.not_false ?_
  repeat (first|refine c_r ?_|refine rg0 ?_)
  refine rt0 Tryz.ntmps110 ?_
  exact⟨hE23,_,rfl,fun h=>absurd h hck⟩
 refine rg1 (decide_eq_true hck) ?_
 repeat refine c_r ?_
 refine wf Bool.not_true ?_
 have p03:=zaa hE3 p02
 have q03:=zaa hE3 q0
 have q13:=zai hE3 q1
 have q53:=zaa hE3 q5
 repeat refine c_r ?_
 refine rg0 ?_
 repeat refine c_r ?_
 refine zaR (fun m σ ds A=>ds=[]∧∃(k:Nat),k+m=i∧σ 7=vi k∧σ 1=vi i∧σ 2= .pointer (some ⟨w.heap.size,0,Option.none⟩)∧σ 5= .pointer (some ⟨b5,0,Option.none⟩)∧Ext w3 A) i ?_ ?_
 ·exact⟨rfl,0,by omega,vr0,vq0,vq0,vq0,Keep.refl _ _⟩
 rintro m σ ds A ⟨rfl,k,hkm,s7,s1,s2,s5,hEA⟩
 have hEwA:=hE23.trans hEA
 repeat refine c_r ?_
 refine rg2 s7 s1 ?_
 repeat refine c_r ?_
 refine wc0 ?_ ?_
 ·intro hlt
  simp only[decide_eq_true_eq]at hlt
  have hk:k<c.servers.length:=by omega
  have hk0:(0:Int)≤(k:Int):=by omega
  have hk1:(k:Int)<(c.servers.length:Int):=by omega
  have hk1':(k:Int)+1=((k+1:Nat):Int):=by push_cast;rfl
  obtain⟨xa',xk,_,nv',_,_,hae,hxk,_,f0,hn',_,⟨d1,d2,d3,d4,_,fcs⟩,_,_⟩:=hat k hk
  injection hae with hae
  subst hae
  obtain⟨fsk,_,_⟩:=hf.s _ (List.getElem_mem hk)
  obtain⟨y1,hy1⟩:∃y,adr (some xk) 1=some y:=⟨_,rfl⟩
  have hz0:adr (some xk) 0=some xk:=zal _
  have fby:zao w (some y1) 4=some [zab d1,zab d2,zab d3,zab d4]:=by
   have h5:=zb6 (m:=1) (k:=5) fcs
   rw[hy1]at h5
   exact zbB (m:=4) (k:=1) h5
  repeat refine c_r ?_
  refine zaU (fun _=>false) [(0,true),(1,true),(2,true),(3,true),(4,true),(5,true),(6,true),(7,true),(8,false),(9,true),(10,true),(11,true),(12,true),(13,true),(14,true),(15,true),(16,true),(17,true),(18,false),(19,true)] NoS mixed (by kernel_rfl) ?_;intro gd K x hgd hx hxe hK;clear hxe
  have hg9:∀n σ b,zaV gd n σ (some (9,b))=zaD (ev n σ (.tmp 35)) b:=(fun n σ b=>by rw[zak,show gd 9=some 35 from(by rw[hgd];rfl)];rfl)
  have hW:=hEwA.trans hx
  have p0x:=zaa (hEA.trans hx) p03
  have q0x:=zaa (hEA.trans hx) q03
  have q1x:=zai (hEA.trans hx) q13
  have f0x:=zaa hW f0
  have fbx:=zai hW fby
  simp (disch:=first|omega|assumption|rfl) only[go_sem,s7,s2,s5,p0x,q0x,Nat.add_zero,hk0,hk1,hxk,hz0,f0x]
  refine Fn.mono (zgC x nv' nv _ s.host (hn'.ext hW) (hn.ext hW) fsk.m.LB fs1.m.LB (by have:=fsk.len;omega) (by have:=fs1.len;omega)) ?_
  rintro _ y ⟨rfl,hy⟩
  refine⟨.inr hy,?_⟩
  obtain⟨sm,hsm⟩:∃b,decide (zaA c.servers[k].host=zaA s.host)=b:=⟨_,rfl⟩
  rw[hsm]
  cases sm with
  |true=>
   simp (disch:=first|omega|assumption|rfl) only[go_sem,↓hg9]
   refine hK _ _ ?_;clear hK hgd;clear K;try clear gd
   repeat refine c_r ?_
   refine wt trivial ?_
   repeat (first|refine c_r ?_|refine rg0 ?_)
   refine rt0 Tryz.ntmps110 ?_
   exact⟨hW.trans hy,_,rfl,fun h=>by cases h⟩
  |false=>
  have p0y:=zaa hy p0x
  have q1y:=zai hy q1x
  have fby':=zai hy fbx
  simp (disch:=first|omega|assumption|rfl) only[go_sem,s7,s2,s5,p0y,Nat.add_zero,hk0,hk1,hxk,hy1,fby',q1y,↓hg9]
  refine op_eqA (a:=d1) (b:=d2) (c:=d3) (d1:=d4) (a':=b1) (b':=b2) (c':=b3) (d':=b4) rfl rfl rfl rfl (by kernel_rfl) (vr0) (vr0) ?_
  refine⟨.inr (Keep.refl _ _),?_⟩
  simp (disch:=first|omega|assumption|rfl) only[go_sem,↓hg9]
  refine hK _ _ ?_;clear hK hgd;clear K;try clear gd
  have hWy:=hW.trans hy
  have hAy:=(hEA.trans hx).trans hy
  repeat refine c_r ?_
  refine wc0 ?_ ?_
  ·intro _
   repeat (first|refine c_r ?_|refine rg0 ?_)
   refine rt0 Tryz.ntmps110 ?_
   exact⟨hWy,_,rfl,fun h=>by cases h⟩
  ·intro _
   repeat refine c_r ?_
   refine rg2 s7 hk1' ?_
   repeat refine c_r ?_
   exact⟨m - 1,by omega,rfl,k+1,by omega,vq0,(vq1 s1),(vq1 s2),(vq1 s5),hAy⟩
 intro hge
 clear hkm hge s7
 have q5A:=zaa hEA q53
 repeat refine c_r ?_
 by_cases h16:(s.places.length:Int)>16
 ·refine rg4 s5 q5A Nat.zero_add (decide_eq_true h16) ?_
  repeat refine c_r ?_
  refine wt trivial ?_
  repeat (first|refine c_r ?_|refine rg0 ?_)
  refine rt0 Tryz.ntmps110 ?_
  exact⟨hEwA,_,rfl,fun h=>by cases h⟩
 refine rg4 s5 q5A Nat.zero_add (decide_eq_false h16) ?_
 repeat refine c_r ?_
 refine wf trivial ?_
 repeat refine c_r ?_
 refine rg0 ?_
 repeat refine c_r ?_
 refine zaR (fun m σ ds B=>ds=[]∧∃(k:Nat),k+m=s.places.length∧σ 8=vi k∧σ 5= .pointer (some ⟨b5,0,Option.none⟩)∧Ext w3 B∧∀j (h:j<s.places.length),j<k→zay s.places[j].o=0∧zbF s.places[j].path) s.places.length ?_ ?_
 ·exact⟨rfl,0,by omega,vr0,(vq1 s5),hEA,fun j _ h=>by omega⟩
 clear s1 s2 s5 q5A hEwA hEA
 rintro m2 σ2 ds2 B ⟨rfl,k,hkm,s8,s5,hEB,hpl9⟩
 have hEwB:=hE23.trans hEB
 have q5B:=zaa hEB q53
 repeat refine c_r ?_
 refine rg4 s8 s5 q5B Nat.zero_add ?_
 repeat refine c_r ?_
 refine wc0 ?_ ?_
 rotate_left
 ·intro hge
  simp only[decide_eq_false_iff_not]at hge
  repeat (first|refine c_r ?_|refine rg0 ?_)
  refine rt0 Tryz.ntmps110 ?_
  exact⟨hEwB,_,rfl,fun _=>by rw[hse];exact⟨hck,fun p hp=>by
   obtain⟨j,hj,rfl⟩:=List.mem_iff_getElem.1 hp
   exact hpl9 j hj (by omega)⟩⟩
 intro hlt
 simp only[decide_eq_true_eq]at hlt
 have hk:k<s.places.length:=by omega
 have hk0:(0:Int)≤(k:Int):=by omega
 have hk1':(k:Int)+1=((k+1:Nat):Int):=by push_cast;rfl
 obtain⟨xp,xk,xk1,ov,rfl,hxk,hxk1,f0,ho,f1⟩:=hpl k hk
 obtain⟨fo,fp⟩:=fs3 _ (List.getElem_mem hk)
 have hz1:adr (some xk) 0=some xk:=zal _
 have f0B:=zaa hEwB f0
 repeat refine c_r ?_
 refine rc (an9 s8 s5 q5B Nat.zero_add hk0 hlt hxk hz1 f0B) (zcL B ov _ (ho.ext hEwB) fo.lb9.1 fo.lb9.2) ?_
 rintro _ B1 ⟨rfl,hE4⟩
 refine re trivial ?_
 have hEB1:=hEB.trans hE4
 have hEwB1:=hE23.trans hEB1
 have q5B1:=zaa hEB1 q53
 have f1B1:=zaa hEwB1 f1
 repeat refine c_r ?_
 by_cases hck2:zay s.places[k].o=0
 rotate_left
 ·refine rg1 (decide_eq_false hck2) ?_
  repeat refine c_r ?_
  refine wt Bool.not_false ?_
  repeat (first|refine c_r ?_|refine rg0 ?_)
  refine rt0 Tryz.ntmps110 ?_
  exact⟨hEwB1,_,rfl,fun h=>absurd h hck2⟩
 refine rg1 (decide_eq_true hck2) ?_
 repeat refine c_r ?_
 refine wf Bool.not_true ?_
 repeat refine c_r ?_
 refine rc (an9 s8 s5 q5B1 Nat.zero_add hk0 hlt hxk hxk1 f1B1) (RPath_ok B1 (l:=s.places[k].path) (by omega)) ?_
 rintro _ B2 ⟨hE5,t,rfl,htp⟩
 refine re trivial ?_
 have hEB2:=hEB1.trans hE5
 repeat refine c_r ?_
 cases t with
 |false=>
  refine wt Bool.not_false ?_
  repeat (first|refine c_r ?_|refine rg0 ?_)
  refine rt0 Tryz.ntmps110 ?_
  exact⟨hE23.trans hEB2,_,rfl,fun h=>by cases h⟩
 |true=>
 refine wf Bool.not_true ?_
 repeat refine c_r ?_
 refine rg0 ?_
 repeat refine c_r ?_
 refine zaR (fun m σ ds C=>ds=[]∧∃(j:Nat),j+m=k∧σ 9=vi j∧σ 8=vi k∧σ 5= .pointer (some ⟨b5,0,Option.none⟩)∧Ext w3 C) k ?_ ?_
 ·exact⟨rfl,0,by omega,vr0,(vq1 s8),(vq1 s5),hEB2⟩
 clear s8 s5
 rintro m3 σ3 ds3 C ⟨rfl,j,hjm,s9,s8,s5,hEC⟩
 have hEwC:=hE23.trans hEC
 repeat refine c_r ?_
 refine rg2 s9 s8 ?_
 repeat refine c_r ?_
 refine wc0 ?_ ?_
 rotate_left
 ·intro _
  repeat refine c_r ?_
  refine rg2 s8 hk1' ?_
  repeat refine c_r ?_
  refine⟨m2 - 1,by omega,rfl,k+1,by omega,vq0,(vq1 s5),hEC,fun j hj hjk=>?_⟩
  by_cases e:j=k
  ·subst e;exact⟨hck2,htp rfl⟩
  ·exact hpl9 j hj (by omega)
 intro hlt2
 simp only[decide_eq_true_eq]at hlt2
 have hj:j<s.places.length:=by omega
 have hj0:(0:Int)≤(j:Int):=by omega
 have hj1:(j:Int)<(s.places.length:Int):=by omega
 have hj1':(j:Int)+1=((j+1:Nat):Int):=by push_cast;rfl
 obtain⟨xp',xj,_,ov',hpe,hxj,_,e0,ho',_⟩:=hpl j hj
 injection hpe with hpe
 subst hpe
 obtain⟨fo',_⟩:=fs3 _ (List.getElem_mem hj)
 have hz2:adr (some xj) 0=some xj:=zal _
 repeat refine c_r ?_
 refine zaU (fun _=>false) [(0,true),(1,true),(2,true),(3,true),(4,true),(5,true),(6,true),(7,true),(8,true),(9,true),(10,true),(11,true),(12,false)] NoS mixed (by kernel_rfl) ?_;intro gd K x hgd hx hxe hK;clear hxe
 have hW:=hEwC.trans hx
 have q5x:=zaa (hEC.trans hx) q53
 have f0x:=zaa hW f0
 have e0x:=zaa hW e0
 simp (disch:=first|omega|assumption|rfl) only[go_sem,s9,s8,s5,q5x,Nat.zero_add,hk0,hlt,hj0,hj1,hxk,hxj,hz1,hz2,f0x,e0x]
 refine Fn.mono (zgC x ov' ov _ _ (ho'.ext hW) (ho.ext hW) fo'.m.LB fo.m.LB (by have:=fo'.len;omega) (by have:=fo.len;omega)) ?_
 rintro _ y ⟨rfl,hy⟩
 refine⟨.inr hy,?_⟩
 simp (disch:=first|omega|assumption|rfl) only[go_sem]
 refine hK _ _ ?_;clear hK hgd;clear K;try clear gd
 repeat refine c_r ?_
 refine wc0 ?_ ?_
 ·intro _
  repeat (first|refine c_r ?_|refine rg0 ?_)
  refine rt0 Tryz.ntmps110 ?_
  exact⟨hW.trans hy,_,rfl,fun h=>by cases h⟩
 ·intro _
  repeat refine c_r ?_
  refine rg2 s9 hj1' ?_
  repeat refine c_r ?_
  exact⟨m3 - 1,by omega,rfl,j+1,by omega,vq0,(vq1 s8),(vq1 s5),(hEC.trans hx).trans hy⟩
structure zeF(c:za4):Prop where
 ne:c.roots≠ []
 inn:∀r∈c.roots,0≤r∧r<(c.servers.length:Int)
 rw:0≤c.rw∧c.rw≤8
 rf:0≤c.rf∧c.rf≤16
 sv:∀s∈c.servers,zay s.host=0∧∀p∈s.places,zay p.o=0∧zbF p.path
theorem zfy(w:World){cs:List Value}{c:za4}(hc:ConfAt w cs c)(hf:FewC c):
  Fn Tryz.prog 43 #[.agg cs.toArray] w (fun v w'=>Ext w w'∧∃a e,v= .tuple #[vi a,vi e]∧(e=0→zeF c)):=by
 have hc0:=hc
 obtain⟨sv,rv,rfl,hs,hr⟩:=hc.ex
 obtain⟨aS,cS,rfl,hat⟩:=zf6 hs
 obtain⟨ar,cr,rfl,_,hgr⟩:=hr
 simp only[List.length_map,List.getElem_map]at hgr hc0 ⊢
 have hsl:=hf.sl
 have hrl:=hf.rl
 refine enter Tryz.func43 Tryz.ntmps43 rfl rfl ?_
 repeat refine c_r ?_
 refine rg0 ?_
 repeat refine c_r ?_
 refine zap ?_
 intro w1 hE1 hs1 hA
 have p0:zag w1 (some ⟨w.heap.size,0,Option.none⟩)=some (.slice aS c.servers.length cS):=zad hA rfl
 have p1:zag w1 (some ⟨w.heap.size,1,Option.none⟩)=some (.slice ar c.roots.length cr):=zad hA rfl
 have p2:zag w1 (some ⟨w.heap.size,2,Option.none⟩)=some (vi c.rw):=zad hA rfl
 have p3:zag w1 (some ⟨w.heap.size,3,Option.none⟩)=some (vi c.rf):=zad hA rfl
 have dC:zao w1 (some ⟨w.heap.size,0,Option.none⟩) 4=some [.slice aS c.servers.length cS,.slice ar c.roots.length cr,vi c.rw,vi c.rf]:=zam hA rfl
 repeat refine c_r ?_
 by_cases h1:(c.servers.length:Int)=0
 ·refine rgg [(4,14)] (an3 p0 Nat.add_zero (decide_eq_true h1)) ?_
  repeat refine c_r ?_
  refine wt trivial ?_
  repeat (first|refine c_r ?_|refine rg0 ?_)
  refine zaf (by simp) Tryz.ntmps43 rfl (zac (vr0) (zac (vr0) zae)) ?_
  exact⟨hE1,_,_,rfl,fun h=>by cases h⟩
 by_cases h2:(c.roots.length:Int)=0
 ·refine rgg [(4,14)] (an6 p0 Nat.add_zero (decide_eq_false h1) p1 Nat.zero_add (decide_eq_true h2)) ?_
  repeat refine c_r ?_
  refine wt trivial ?_
  repeat (first|refine c_r ?_|refine rg0 ?_)
  refine zaf (by simp) Tryz.ntmps43 rfl (zac (vr0) (zac (vr0) zae)) ?_
  exact⟨hE1,_,_,rfl,fun h=>by cases h⟩
 refine rgg [(4,14)] (an6 p0 Nat.add_zero (decide_eq_false h1) p1 Nat.zero_add (decide_eq_false h2)) ?_
 repeat refine c_r ?_
 refine wf trivial ?_
 repeat refine c_r ?_
 refine rg2 p0 Nat.add_zero ?_
 repeat refine c_r ?_
 refine wc0 ?_ ?_
 ·intro _
  repeat (first|refine c_r ?_|refine rg0 ?_)
  refine zaf (by simp) Tryz.ntmps43 rfl (zac (vr0) (zac (vr0) zae)) ?_
  exact⟨hE1,_,_,rfl,fun h=>by cases h⟩
 intro _
 repeat refine c_r ?_
 refine zaM (Q:=fun e σ' ds' v'=>e= .normal∧ds'=[]∧v'=w1∧σ' 1= .pointer (some ⟨w.heap.size,0,Option.none⟩)∧∃t,σ' 25= .bool t∧(t=false→(0≤c.rw∧c.rw≤8)∧0≤c.rf∧c.rf≤16)) ?_ ?_
 ·by_cases e0:c.rw<0
  ·refine rgg [(3,29),(8,34),(13,39)] (an3 p2 Nat.zero_add (decide_eq_true e0)) ?_
   exact⟨rfl,rfl,rfl,vq0,true,vr0,fun h=>by cases h⟩
  by_cases e1:c.rw>8
  ·refine rgg [(3,29),(8,34),(13,39)] (an4 p2 Nat.zero_add (decide_eq_false e0) (decide_eq_true e1)) ?_
   exact⟨rfl,rfl,rfl,vq0,true,vr0,fun h=>by cases h⟩
  by_cases e2:c.rf<0
  ·refine rgg [(3,29),(8,34),(13,39)] (an6 p2 Nat.zero_add (decide_eq_false e0) (decide_eq_false e1) p3 (decide_eq_true e2)) ?_
   exact⟨rfl,rfl,rfl,vq0,true,vr0,fun h=>by cases h⟩
  by_cases e3:c.rf>16
  ·refine rgg [(3,29),(8,34),(13,39)] (an7 p2 Nat.zero_add (decide_eq_false e0) (decide_eq_false e1) p3 (decide_eq_false e2) (decide_eq_true e3)) ?_
   exact⟨rfl,rfl,rfl,vq0,true,vr0,fun h=>by cases h⟩
  refine rgg [(3,29),(8,34),(13,39)] (an7 p2 Nat.zero_add (decide_eq_false e0) (decide_eq_false e1) p3 (decide_eq_false e2) (decide_eq_false e3)) ?_
  exact⟨rfl,rfl,rfl,vq0,false,vr0,fun _=>⟨⟨by omega,by omega⟩,by omega,by omega⟩⟩
 rintro _ σ1 _ w2 ⟨rfl,rfl,rfl,s1,t,s25,hrng⟩
 repeat refine c_r ?_
 cases t with
 |true=>
  refine wt s25 ?_
  repeat (first|refine c_r ?_|refine rg0 ?_)
  refine zaf (by simp) Tryz.ntmps43 rfl (zac (vr0) (zac (vr0) zae)) ?_
  exact⟨hE1,_,_,rfl,fun h=>by cases h⟩
 |false=>
 refine wf s25 ?_
 clear s25
 repeat refine c_r ?_
 refine rg0 ?_
 repeat refine c_r ?_
 refine zaR (fun m σ ds A=>ds=[]∧∃(i:Nat),i+m=c.roots.length∧σ 4=vi i∧σ 1= .pointer (some ⟨w.heap.size,0,Option.none⟩)∧Ext w2 A∧∀j (h:j<c.roots.length),j<i→0≤c.roots[j]∧c.roots[j]<(c.servers.length:Int)) c.roots.length ?_ ?_
 ·exact⟨rfl,0,by omega,vr0,(vq1 s1),Keep.refl _ _,fun j h h2=>absurd h2 (by omega)⟩
 clear s1
 rintro m σ ds A ⟨rfl,i,him,s4,s1,hEA,ht⟩
 have p1A:=zaa hEA p1
 repeat refine c_r ?_
 refine rg4 s4 s1 p1A Nat.zero_add ?_
 repeat refine c_r ?_
 refine wc0 ?_ ?_
 ·intro hlt
  simp only[decide_eq_true_eq]at hlt
  have hi:i<c.roots.length:=by omega
  have hi0:(0:Int)≤(i:Int):=by omega
  have hi1':(i:Int)+1=((i+1:Nat):Int):=by push_cast;rfl
  have g:=hgr i hi
  obtain⟨x1,rfl⟩:=Option.isSome_iff_exists.1 (zaj g)
  repeat refine c_r ?_
  refine zaU (fun _=>false) [(0,true),(1,true),(2,true),(3,true),(4,true),(5,true),(6,true),(7,true),(8,true),(9,true),(10,true),(11,true),(12,true),(13,true),(14,true),(15,true),(16,true)] NoS mixed (by kernel_rfl) ?_;intro gd K x hgd hx hxe hK;clear hxe
  have hg6:∀n σ b,zaV gd n σ (some (6,b))=zaD (ev n σ (.tmp 57)) b:=(fun n σ b=>by rw[zak,show gd 6=some 57 from(by rw[hgd];rfl)];rfl)
  have p1x:=zaa hx p1A
  have p0x:=zaa (hEA.trans hx) p0
  have gx:=zaa (hE1.trans (hEA.trans hx)) g
  by_cases hneg:c.roots[i]<0
  ·simp (disch:=first|omega|assumption|rfl) only[go_sem,s4,s1,p1x,Nat.zero_add,Nat.mul_one,hi0,hlt,gx,decide_eq_true hneg,zfW,↓hg6]
   refine hK _ _ ?_;clear hK hgd;clear K;try clear gd
   repeat refine c_r ?_
   refine wt trivial ?_
   repeat (first|refine c_r ?_|refine rg0 ?_)
   refine zaf (by simp) Tryz.ntmps43 rfl (zac (vr0) (zac (vr0) zae)) ?_
   exact⟨hE1.trans (hEA.trans hx),_,_,rfl,fun h=>by cases h⟩
  by_cases hbig:c.roots[i]≥(c.servers.length:Int)
  ·simp (disch:=first|omega|assumption|rfl) only[go_sem,s4,s1,p1x,p0x,Nat.zero_add,Nat.add_zero,Nat.mul_one,hi0,hlt,gx,decide_eq_false hneg,decide_eq_true hbig,zfW,↓hg6]
   refine hK _ _ ?_;clear hK hgd;clear K;try clear gd
   repeat refine c_r ?_
   refine wt trivial ?_
   repeat (first|refine c_r ?_|refine rg0 ?_)
   refine zaf (by simp) Tryz.ntmps43 rfl (zac (vr0) (zac (vr0) zae)) ?_
   exact⟨hE1.trans (hEA.trans hx),_,_,rfl,fun h=>by cases h⟩
  simp (disch:=first|omega|assumption|rfl) only[go_sem,s4,s1,p1x,p0x,Nat.zero_add,Nat.add_zero,Nat.mul_one,hi0,hlt,gx,decide_eq_false hneg,decide_eq_false hbig,zfW,↓hg6]
  refine hK _ _ ?_;clear hK hgd;clear K;try clear gd
  repeat refine c_r ?_
  refine wf trivial ?_
  repeat refine c_r ?_
  refine rg2 s4 hi1' ?_
  repeat refine c_r ?_
  refine⟨m - 1,by omega,rfl,i+1,by omega,vq0,(vq1 s1),hEA.trans hx,fun j hj hji=>?_⟩
  by_cases hj2:j=i
  ·subst hj2;omega
  ·exact ht j hj (by omega)
 intro hge
 simp only[decide_eq_false_iff_not]at hge
 have hro:(∀s∈c.servers,zay s.host=0∧∀p∈s.places,zay p.o=0∧zbF p.path)→zeF c:=fun hsv=>⟨fun h=>by rw[h]at h2;exact h2 rfl,fun r hr=>by
  obtain⟨j,hj,rfl⟩:=List.mem_iff_getElem.1 hr
  exact ht j hj (by omega),(hrng rfl).1,(hrng rfl).2,hsv⟩
 clear him hge s4 ht p1A
 repeat refine c_r ?_
 refine rg0 ?_
 repeat refine c_r ?_
 refine zaR (fun m σ ds B=>ds=[]∧∃(i:Nat),i+m=c.roots.length∧σ 5=vi i∧σ 1= .pointer (some ⟨w.heap.size,0,Option.none⟩)∧Ext w2 B) c.roots.length ?_ ?_
 ·exact⟨rfl,0,by omega,vr0,(vq1 s1),hEA⟩
 clear s1 hEA
 rintro m2 σ2 ds2 B ⟨rfl,i,him,s5,s1,hEB⟩
 have p1B:=zaa hEB p1
 repeat refine c_r ?_
 refine rg4 s5 s1 p1B Nat.zero_add ?_
 repeat refine c_r ?_
 refine wc0 ?_ ?_
 ·intro hlt
  simp only[decide_eq_true_eq]at hlt
  have hi:i<c.roots.length:=by omega
  have hi0:(0:Int)≤(i:Int):=by omega
  have hi1':(i:Int)+1=((i+1:Nat):Int):=by push_cast;rfl
  have g:=hgr i hi
  obtain⟨x1,rfl⟩:=Option.isSome_iff_exists.1 (zaj g)
  repeat refine c_r ?_
  refine rg0 ?_
  repeat refine c_r ?_
  refine zaR (fun m σ ds C=>ds=[]∧∃(j:Nat),j+m=i∧σ 6=vi j∧σ 5=vi i∧σ 1= .pointer (some ⟨w.heap.size,0,Option.none⟩)∧Ext w2 C) i ?_ ?_
  ·exact⟨rfl,0,by omega,vr0,(vq1 s5),(vq1 s1),hEB⟩
  clear s5 s1
  rintro m3 σ3 ds3 C ⟨rfl,j,hjm,s6,s5,s1,hEC⟩
  have p1C:=zaa hEC p1
  repeat refine c_r ?_
  refine rg2 s6 s5 ?_
  repeat refine c_r ?_
  refine wc0 ?_ ?_
  ·intro hlt2
   simp only[decide_eq_true_eq]at hlt2
   have hj:j<c.roots.length:=by omega
   have hj0:(0:Int)≤(j:Int):=by omega
   have hj1:(j:Int)<(c.roots.length:Int):=by omega
   have hj1':(j:Int)+1=((j+1:Nat):Int):=by push_cast;rfl
   have gj:=hgr j hj
   repeat refine c_r ?_
   refine zaU (fun _=>false) [(0,true),(1,true),(2,true),(3,true),(4,true),(5,true),(6,true),(7,true),(8,true),(9,true),(10,true)] NoS mixed (by kernel_rfl) ?_;intro gd K x hgd hx hxe hK;clear hxe
   have p1x:=zaa hx p1C
   have gx:=zaa (hE1.trans (hEC.trans hx)) g
   have gjx:=zaa (hE1.trans (hEC.trans hx)) gj
   simp (disch:=first|omega|assumption|rfl) only[go_sem,s6,s5,s1,p1x,Nat.zero_add,Nat.mul_one,hi0,hlt,hj0,hj1,gx,gjx]
   refine hK _ _ ?_;clear hK hgd;clear K;try clear gd
   repeat refine c_r ?_
   refine wc0 ?_ ?_
   ·intro _
    repeat (first|refine c_r ?_|refine rg0 ?_)
    refine zaf (by simp) Tryz.ntmps43 rfl (zac (vr0) (zac (vr0) zae)) ?_
    exact⟨hE1.trans (hEC.trans hx),_,_,rfl,fun h=>by cases h⟩
   ·intro _
    repeat refine c_r ?_
    refine rg2 s6 hj1' ?_
    repeat refine c_r ?_
    exact⟨m3 - 1,by omega,rfl,j+1,by omega,vq0,(vq1 s5),(vq1 s1),hEC.trans hx⟩
  ·intro _
   repeat refine c_r ?_
   refine rg2 s5 hi1' ?_
   repeat refine c_r ?_
   exact⟨m2 - 1,by omega,rfl,i+1,by omega,vq0,(vq1 s1),hEC⟩
 intro hge
 clear him hge s5 p1B
 repeat refine c_r ?_
 refine rg0 ?_
 repeat refine c_r ?_
 refine zaR (fun m σ ds B=>ds=[]∧∃(i:Nat),i+m=c.servers.length∧σ 7=vi i∧σ 1= .pointer (some ⟨w.heap.size,0,Option.none⟩)∧Ext w2 B∧∀j (h:j<c.servers.length),j<i→SrvOk c.servers[j]) c.servers.length ?_ ?_
 ·exact⟨rfl,0,by omega,vr0,(vq1 s1),hEB,fun j _ h=>by omega⟩
 clear s1 hEB
 rintro m3 σ3 ds3 C ⟨rfl,i,him,s7,s1,hEC,hsv9⟩
 have p0C:=zaa hEC p0
 have dCC:=zai hEC dC
 repeat refine c_r ?_
 refine rg4 s7 s1 p0C Nat.add_zero ?_
 repeat refine c_r ?_
 refine wc0 ?_ ?_
 ·intro hlt
  simp only[decide_eq_true_eq]at hlt
  have hi:i<c.servers.length:=by omega
  have hi1':(i:Int)+1=((i+1:Nat):Int):=by push_cast;rfl
  repeat refine c_r ?_
  refine rc (an3 s7 s1 dCC) (ziH C (hc0.ext (hE1.trans hEC)) hf hi) ?_
  rintro _ C1 ⟨hE2,e,rfl,hse9⟩
  refine re trivial ?_
  repeat refine c_r ?_
  by_cases he:e=0
  ·refine rg1 (decide_eq_true he) ?_
   repeat refine c_r ?_
   refine wf Bool.not_true ?_
   repeat refine c_r ?_
   refine rg2 s7 hi1' ?_
   repeat refine c_r ?_
   refine⟨m3 - 1,by omega,rfl,i+1,by omega,vq0,(vq1 s1),hEC.trans hE2,fun j hj hji=>?_⟩
   by_cases e1:j=i
   ·subst e1;exact hse9 he
   ·exact hsv9 j hj (by omega)
  ·refine rg1 (decide_eq_false he) ?_
   repeat refine c_r ?_
   refine wt Bool.not_false ?_
   repeat refine c_r ?_
   refine rg1 s7 ?_
   repeat refine c_r ?_
   refine zaf (by simp) Tryz.ntmps43 rfl (zac (vr0) (zac (vr0) zae)) ?_
   exact⟨hE1.trans (hEC.trans hE2),_,_,rfl,fun h=>absurd h he⟩
 ·intro hge
  simp only[decide_eq_false_iff_not]at hge
  repeat (first|refine c_r ?_|refine rg0 ?_)
  refine zaf (by simp) Tryz.ntmps43 rfl (zac (vr0) (zac (vr0) zae)) ?_
  refine⟨hE1.trans hEC,_,_,rfl,fun _=>hro fun s hs=>?_⟩
  obtain⟨j,hj,rfl⟩:=List.mem_iff_getElem.1 hs
  have:=hsv9 j hj (by omega)
  exact⟨this.host,this.places⟩
inductive RowL where
 |bound (a b:Nat)
 |server (h:Nm) (a:List UInt8)
 |zone (o:Nm) (p:Lab)
 |root (h:Nm)
def zfn(a:List UInt8):Lab:=zeN hexU (rawD 1 a)
def zaI:RowL→List Lab
 | .bound a b=>[[98,111,117,110,100],Lib.decDigits a,Lib.decDigits b]
 | .server h a=>[[115,101,114,118,101,114],zaW h,zfn a]
 | .zone o p=>[[122,111,110,101],zaW o,p]
 | .root h=>[[114,111,111,116],zaW h]
def zbv(r:RowL):Lab:=za6 [32] (zaI r)
def zaO(rs:List RowL):Lab:=rs.flatMap fun r=>zbv r++ [10]
def zeG(n:Nm):Prop:=zay n=0∧NmT n
def zcJ:RowL→Prop
 | .bound a b=>a≤2147483647∧b≤2147483647
 | .server h a=>zeG h∧a.length=4
 | .zone o p=>zeG o∧zbF p∧p.length≤50
 | .root h=>zeG h
def zf1(p:Lab):Prop:=∀c∈p,c≠32∧c≠10
theorem zdz{p:Lab}(h:∀c∈p,digB c=true):zf1 p:=fun c hc=>by
 have:=h c hc
 constructor<;>(rintro rfl;revert this;decide)
theorem zhO(c:UInt8):zf1 (escB c):=fun x hx=>by
 have h2:=zcT (k:=c.toNat / 10 % 10) (by omega)
 have h3:=zcT (k:=c.toNat % 10) (by omega)
 have hcl:=c.toNat_lt
 have h1:=zcT (k:=c.toNat / 100) (by omega)
 have hd:∀d:UInt8,digB d=true→d≠32∧d≠10:=fun d h=>by constructor<;>(rintro rfl;revert h;decide)
 unfold escB at hx
 simp only[List.mem_cons,List.not_mem_nil,or_false]at hx
 rcases hx with rfl|rfl|rfl|rfl
 ·decide
 ·exact hd _ h1
 ·exact hd _ h2
 ·exact hd _ h3
theorem zhN(c:UInt8):zf1 (labB c):=by
 unfold labB
 split
 ·exact zhO c
 ·rename_i h
  have hc:c≠32∧c≠10:=⟨fun e=>h (.inl (by rw[e];decide)),fun e=>h (.inl (by rw[e];decide))⟩
  split
  ·intro x hx
   simp only[List.mem_cons,List.not_mem_nil,or_false]at hx
   rcases hx with rfl|rfl
   ·decide
   ·exact hc
  ·intro x hx
   rw[List.mem_singleton.1 hx];exact hc
theorem zcN(n:Nm):zf1 (zaW n):=by
 unfold zaW
 split
 ·intro c hc;rw[List.mem_singleton.1 hc];decide
 ·intro c hc
  obtain⟨l,_,hl⟩:=List.mem_flatMap.1 hc
  rcases List.mem_append.1 hl with h|h
  ·obtain⟨x,_,hx⟩:=List.mem_flatMap.1 (show c∈l.flatMap labB from h)
   exact zhN x c hx
  ·rw[List.mem_singleton.1 h];decide
theorem zeb{a:List UInt8}(h:a.length=4):zgy (rawD 1 a)=0:=by
 rcases a with _| ⟨a,_| ⟨b,_| ⟨c,_| ⟨d,_| ⟨e,r⟩⟩⟩⟩⟩<;>first|rfl| (simp at h)
theorem zcG{a:List UInt8}(h:a.length=4):zfn a=za6 [46] (a.map fun c=>Lib.decDigits c.toNat):=tx_one (zfj (zeb h)).2.1 rfl
theorem zgM{a:List UInt8}(h:a.length=4):zf1 (zfn a):=by
 rw[zcG h]
 exact zcx (by decide) fun p hp=>by
  obtain⟨c,_,rfl⟩:=List.mem_map.1 hp
  exact zdz (zb3 _)
theorem zgB{a:List UInt8}(h:a.length=4):(zfn a).length≤200:=by
 rw[zcG h]
 have h1:=zew [46] (a.map fun c=>Lib.decDigits c.toNat)
 have h2:=zbc (m:=20) (l:=a.map fun c=>Lib.decDigits c.toNat) fun p hp=>by
  obtain⟨c,_,rfl⟩:=List.mem_map.1 hp
  have hcl:=c.toNat_lt
  have:=zbk 19 c.toNat (by omega)
  omega
 simp[h]at h1 h2
 omega
theorem zhf{a:List UInt8}(h:a.length=4):wF false (zfn a) [] false=[(zfn a,false)]:=by
 refine zhr (zhu ?_ fun c hc=>?_)
 ·rw[zcG h]
  exact zgk (fun e=>by rw[List.map_eq_nil_iff]at e;rw[e]at h;cases h) fun p hp=>by
   obtain⟨c,_,rfl⟩:=List.mem_map.1 hp
   exact zgv _
 ·rw[zcG h]at hc
  have:∀c∈za6 [46] (a.map fun c=>Lib.decDigits c.toNat),c≠92∧c≠34∧c≠32:=zcx (by decide) fun p hp c hc=>by
   obtain⟨x,_,rfl⟩:=List.mem_map.1 hp
   have:=dig_ok (zb3 _ c hc)
   exact⟨this.1,this.2.1,this.2.2.1⟩
  exact this c hc
theorem zgL{p:Lab}(h:zbF p):zf1 p:=fun c hc=>by
 have:=h.2 c hc
 constructor<;>(rintro rfl;revert this;decide)
theorem zdy{r:RowL}(h:zcJ r):∀p∈zaI r,zf1 p:=by
 cases r with
 |bound a b=>
  intro p hp
  simp only[zaI,List.mem_cons,List.not_mem_nil,or_false]at hp
  rcases hp with rfl|rfl|rfl
  ·intro c hc;revert c;decide
  ·exact zdz (zb3 _)
  ·exact zdz (zb3 _)
 |server n a=>
  intro p hp
  simp only[zaI,List.mem_cons,List.not_mem_nil,or_false]at hp
  rcases hp with rfl|rfl|rfl
  ·intro c hc;revert c;decide
  ·exact zcN _
  ·exact zgM h.2
 |zone o q=>
  intro p hp
  simp only[zaI,List.mem_cons,List.not_mem_nil,or_false]at hp
  rcases hp with rfl|rfl|rfl
  ·intro c hc;revert c;decide
  ·exact zcN _
  ·exact zgL h.2.1
 |root n=>
  intro p hp
  simp only[zaI,List.mem_cons,List.not_mem_nil,or_false]at hp
  rcases hp with rfl|rfl
  ·intro c hc;revert c;decide
  ·exact zcN _
theorem zf5(r:RowL):∃p l,zaI r=p::l:=by cases r<;>exact⟨_,_,rfl⟩
theorem zdg{r:RowL}(h:zcJ r):SplC 32 (zbv r) (zaI r):=by
 obtain⟨p,l,e⟩:=zf5 r
 have h1:=zdy h
 unfold zbv
 rw[e]at h1 ⊢
 exact zdv 32 l p fun x hx hc=>(h1 x hx 32 hc).1 rfl
theorem zh1{r:RowL}(h:zcJ r):(10:UInt8)∉zbv r:=fun hc=>
 (zcx (Q:=fun c=>c≠10) (by decide) fun p hp c hc=>(zdy h p hp c hc).2) 10 hc rfl
theorem zdh{r:RowL}(h:zcJ r):(zbv r).length≤6000000∧∀p∈zaI r,p.length≤5000000:=by
 have hn:∀n,zeG n→(zaW n).length≤5000000:=fun n h=>zdp h.2.1 h.2.2
 have hw:∀p∈zaI r,p.length≤5000000:=by
  cases r with
  |bound a b=>
   have d1:=zbk 19 a (by have:=h.1;omega)
   have d2:=zbk 19 b (by have:=h.2;omega)
   intro p hp
   simp only[zaI,List.mem_cons,List.not_mem_nil,or_false]at hp
   rcases hp with rfl|rfl|rfl
   ·decide
   ·omega
   ·omega
  |server n a=>
   intro p hp
   simp only[zaI,List.mem_cons,List.not_mem_nil,or_false]at hp
   rcases hp with rfl|rfl|rfl
   ·decide
   ·exact hn _ h.1
   ·have:=zgB h.2;omega
  |zone o q=>
   intro p hp
   simp only[zaI,List.mem_cons,List.not_mem_nil,or_false]at hp
   rcases hp with rfl|rfl|rfl
   ·decide
   ·exact hn _ h.1
   ·have:=h.2.2;omega
  |root n=>
   intro p hp
   simp only[zaI,List.mem_cons,List.not_mem_nil,or_false]at hp
   rcases hp with rfl|rfl
   ·decide
   ·exact hn _ h
 refine⟨?_,hw⟩
 have h1:=zew [32] (zaI r)
 unfold zbv
 cases r with
 |bound a b=>
  have d1:=zbk 19 a (by have:=h.1;omega)
  have d2:=zbk 19 b (by have:=h.2;omega)
  simp only[zaI,zas,List.map_cons,List.map_nil,List.sum_cons,List.sum_nil,List.length_cons,List.length_nil]at h1 ⊢
  omega
 |server n a=>
  have d1:=hn _ h.1
  have d2:=zgB h.2
  simp only[zaI,zas,List.map_cons,List.map_nil,List.sum_cons,List.sum_nil,List.length_cons,List.length_nil]at h1 ⊢
  omega
 |zone o q=>
  have d1:=hn _ h.1
  have d2:=h.2.2
  simp only[zaI,zas,List.map_cons,List.map_nil,List.sum_cons,List.sum_nil,List.length_cons,List.length_nil]at h1 ⊢
  omega
 |root n=>
  have d1:=hn _ h
  simp only[zaI,zas,List.map_cons,List.map_nil,List.sum_cons,List.sum_nil,List.length_cons,List.length_nil]at h1 ⊢
  omega
theorem zgx(c:UInt8)(r:Lab):∀p:Lab,c∉p→cutB c (p++c::r)=(p,r,true)
 | [],_=>by unfold cutB;rw[List.nil_append];simp
 |b::p,h=>by
  have hb:¬b=c:=fun e=>h (by rw[e];exact List.mem_cons_self ..)
  have ih:=zgx c r p fun e=>h (List.mem_cons_of_mem _ e)
  rw[List.cons_append,cutB,if_neg hb,ih]
theorem zgw(c:UInt8):∀p:Lab,c∉p→cutB c p=(p,[],false)
 | [],_=>rfl
 |b::p,h=>by
  have hb:¬b=c:=fun e=>h (by rw[e];exact List.mem_cons_self ..)
  rw[cutB,if_neg hb,zgw c p fun e=>h (List.mem_cons_of_mem _ e)]
structure StL where
 c:za4
 stage:Int
def idxS(l:List SrvL)(h:Nm):Int:=match l.findIdx? (fun s=>decide (zaA s.host=zaA h)) with
 |some k=>(k:Int)
 |Option.none=> -1
def putZ(l:List SrvL)(p:za3):List SrvL:=match l.getLast? with
 |some s=>l.dropLast++ [{s with places:=s.places++ [p]}]
 |Option.none=>[]
def zbn(s:StL):RowL→StL×Int
 | .bound a b=>(⟨{s.c with rw:=a,rf:=b},1⟩,0)
 | .server h a=>(⟨{s.c with servers:=s.c.servers++ [⟨h,a,[]⟩]},2⟩,0)
 | .zone o p=>(⟨{s.c with servers:=putZ s.c.servers ⟨o,p⟩},2⟩,0)
 | .root h=>(⟨{s.c with roots:=s.c.roots++ [idxS s.c.servers h]},3⟩,if idxS s.c.servers h<0 then 4 else 0)
def zfd(s:StL):RowL→Prop
 | .bound _ _=>s.stage=0
 | .server _ _=>s.stage=1∨s.stage=2
 | .zone _ _=>s.stage=2∧s.c.servers≠ []
 | .root _=>s.stage=2∨s.stage=3
def init0:StL:=⟨⟨[],[],0,0⟩,0⟩
def za2(s:StL)(rs:List RowL):StL:=rs.foldl (fun s r=>(zbn s r).1) s
def zei(s:StL):List RowL→Prop
 | []=>True
 |r::rs=>zfd s r∧(zbn s r).2=0∧zei (zbn s r).1 rs
theorem zeh{s:StL}:∀{l m:List RowL},zei s l→zei (za2 s l) m→zei s (l++m)
 | [],_,_,h=>h
 |r::l,m,⟨h1,h2,h3⟩,h=>⟨h1,h2,zeh (l:=l) h3 h⟩
theorem zij{s:StL}{l m:List RowL}:za2 s (l++m)=za2 (za2 s l) m:=List.foldl_append
theorem zfB{s:StL}:∀{l:List RowL},zei s l→∀(j:Nat) (h:j<l.length),zfd (za2 s (l.take j)) l[j]∧(zbn (za2 s (l.take j)) l[j]).2=0
 | [],_,j,h=>absurd h (by simp)
 |r::l,⟨h1,h2,h3⟩,0,_=>⟨h1,h2⟩
 |r::l,⟨h1,h2,h3⟩,j+1,h=>zfB (l:=l) h3 j (by simpa using h)
def zcr(s:SrvL):List RowL:= .server s.host s.addr::s.places.map fun p=> .zone p.o p.path
def zcQ(l:List SrvL)(r:Int):Nm:=match l[r.toNat]? with
 |some s=>s.host
 |Option.none=>[]
def zbo(c:za4):List RowL:= .bound c.rw.toNat c.rf.toNat::(c.servers.flatMap zcr++c.roots.map fun r=> .root (zcQ c.servers r))
theorem zd1(s:SrvL):∀(ps:List za3) (pre:List SrvL) (pl:List za3) (c:za4),c.servers=pre++ [{s with places:=pl}]→
  zei ⟨c,2⟩ (ps.map fun p=> .zone p.o p.path)∧za2 ⟨c,2⟩ (ps.map fun p=> .zone p.o p.path)=⟨{c with servers:=pre++ [{s with places:=pl++ps}]},2⟩
 | [],pre,pl,c,h=>⟨trivial,by rw[List.append_nil,←h];rfl⟩
 |p::ps,pre,pl,c,h=>by
  have e:putZ c.servers p=pre++ [{s with places:=pl++ [p]}]:=by
   unfold putZ
   rw[h,List.getLast?_concat,List.dropLast_concat]
  obtain⟨h1,h2⟩:=zd1 s ps pre (pl++ [p]) {c with servers:=putZ c.servers p} e
  refine⟨⟨⟨rfl,by rw[h];simp⟩,rfl,h1⟩,?_⟩
  have h3:za2 ⟨c,2⟩ ((p::ps).map fun p=>RowL.zone p.o p.path)=za2 ⟨{c with servers:=putZ c.servers p},2⟩ (ps.map fun p=> .zone p.o p.path):=rfl
  rw[h3,h2,List.append_assoc]
  rfl
theorem zdw:∀(ss pre:List SrvL) (st:Int) (c:za4),c.servers=pre→st=1∨st=2→
  zei ⟨c,st⟩ (ss.flatMap zcr)∧∃st',za2 ⟨c,st⟩ (ss.flatMap zcr)=⟨{c with servers:=pre++ss},st'⟩∧(st'=2∨ss=[]∧st'=st)
 | [],pre,st,c,h,_=>⟨trivial,st,by rw[List.append_nil,←h];rfl,.inr ⟨rfl,rfl⟩⟩
 |s::ss,pre,st,c,h,hst=>by
  subst h
  obtain⟨h1,h2⟩:=zd1 s s.places c.servers [] {c with servers:=c.servers++ [⟨s.host,s.addr,[]⟩]} rfl
  obtain⟨g1,st',g2,g3⟩:=zdw ss (c.servers++ [s]) 2 {c with servers:=c.servers++ [s]} rfl (.inr rfl)
  have e0:za2 ⟨c,st⟩ (zcr s)=⟨{c with servers:=c.servers++ [s]},2⟩:=by
   show za2 ⟨{c with servers:=c.servers++ [⟨s.host,s.addr,[]⟩]},2⟩ (s.places.map fun p=> .zone p.o p.path)=_
   rw[h2,List.nil_append]
  refine⟨?_,st',?_,?_⟩
  ·rw[List.flatMap_cons]
   refine zeh (l:=zcr s) ⟨hst,rfl,h1⟩ ?_
   rw[e0];exact g1
  ·rw[List.flatMap_cons,zij,e0,g2,List.append_assoc]
   rfl
  ·rcases g3 with g| ⟨_,g⟩
   ·exact .inl g
   ·exact .inl g
theorem idx_at{l:List SrvL}{k:Nat}(h:k<l.length):0≤idxS l l[k].host:=by
 unfold idxS
 cases hf:l.findIdx? (fun s=>decide (zaA s.host=zaA l[k].host)) with
 |some j=>exact Int.natCast_nonneg j
 |none=>
  rw[List.findIdx?_eq_none_iff]at hf
  have:=hf l[k] (List.getElem_mem h)
  simp at this
theorem zeR(ss:List SrvL):∀(rs:List Int) (st:Int) (c:za4),c.servers=ss→st=2∨st=3→(∀r∈rs,0≤r∧r<(ss.length:Int))→zei ⟨c,st⟩ (rs.map fun r=> .root (zcQ ss r))
 | [],_,_,_,_,_=>trivial
 |r::rs,st,c,h,hst,hr=>by
  obtain⟨h0,h1⟩:=hr r (List.mem_cons_self ..)
  have e:zcQ ss r=(ss[r.toNat]'(by omega)).host:=by unfold zcQ;rw[List.getElem?_eq_getElem (by omega)]
  refine⟨hst,?_,zeR ss rs 3 _ h (.inr rfl) fun x hx=>hr x (List.mem_cons_of_mem _ hx)⟩
  have h2:=idx_at (l:=ss) (k:=r.toNat) (by omega)
  show(if idxS c.servers (zcQ ss r)<0 then(4:Int) else 0)=0
  rw[h,e,if_neg (by omega)]
structure zhm(c:za4):Prop extends zeF c where
 few:FewC c
 adr:∀s∈c.servers,s.addr.length=4
theorem Sh.t{n:Nm}(h:Sh n):NmT n:=⟨fun l hl=>by have:=h.lb l hl;omega,by have:=h.len;omega⟩
theorem zgK{c:za4}(h:zhm c):zei init0 (zbo c):=by
 obtain⟨g1,st',g2,g3⟩:=zdw c.servers [] 1 {(⟨[],[],0,0⟩:za4) with rw:=(c.rw.toNat:Int),rf:=(c.rf.toNat:Int)} rfl (.inl rfl)
 refine⟨rfl,rfl,zeh g1 ?_⟩
 have g4:za2 (zbn init0 (.bound c.rw.toNat c.rf.toNat)).1 (c.servers.flatMap zcr)=_:=g2
 rw[g4]
 refine zeR c.servers c.roots st' _ (by rw[List.nil_append]) ?_ h.inn
 rcases g3 with g| ⟨g,_⟩
 ·exact .inl g
 ·cases hr:c.roots with
  |nil=>exact absurd hr h.ne
  |cons r l=>
   have:=h.inn r (by rw[hr];exact List.mem_cons_self ..)
   rw[g]at this
   simp at this;omega
theorem zgb{c:za4}(h:zhm c):∀r∈zbo c,zcJ r:=fun r hr=>by
 have hw:=h.rw
 have hf:=h.rf
 rcases List.mem_cons.1 hr with rfl|hr
 ·exact⟨by omega,by omega⟩
 rcases List.mem_append.1 hr with hr|hr
 ·obtain⟨s,hs,hr⟩:=List.mem_flatMap.1 hr
  obtain⟨f1,f2,f3⟩:=h.few.s s hs
  obtain⟨k1,k2⟩:=h.sv s hs
  rcases List.mem_cons.1 hr with rfl|hr
  ·exact⟨⟨k1,f1.t⟩,h.adr s hs⟩
  ·obtain⟨p,hp,rfl⟩:=List.mem_map.1 hr
   exact⟨⟨(k2 p hp).1,(f3 p hp).1.t⟩,(k2 p hp).2,(f3 p hp).2⟩
 ·obtain⟨x,hx,rfl⟩:=List.mem_map.1 hr
  obtain⟨h0,h1⟩:=h.inn x hx
  have e:zcQ c.servers x=(c.servers[x.toNat]'(by omega)).host:=by unfold zcQ;rw[List.getElem?_eq_getElem (by omega)]
  show zeG _
  rw[e]
  exact⟨(h.sv _ (List.getElem_mem _)).1,(h.few.s _ (List.getElem_mem _)).1.t⟩
theorem zeS{c:za4}(h:FewC c):(zbo c).length≤500:=by
 have h1:∀l:List SrvL,(∀s∈l,s.places.length≤20)→(l.flatMap zcr).length≤21*l.length:=fun l=>by
  induction l with
  |nil=>intro _;exact Nat.le_refl _
  |cons s l ih=>
   intro hs
   have:=ih fun x hx=>hs x (List.mem_cons_of_mem _ hx)
   have h2:=hs s (List.mem_cons_self ..)
   rw[List.flatMap_cons,List.length_append,List.length_cons]
   have e:(zcr s).length=s.places.length+1:=by unfold zcr;rw[List.length_cons,List.length_map]
   omega
 have h2:=h1 c.servers fun s hs=>(h.s s hs).2.1
 have h3:=h.sl
 have h4:=h.rl
 unfold zbo
 rw[List.length_cons,List.length_append,List.length_map]
 omega
theorem zby(r:RowL)(rs:List RowL):zaO (r::rs)=zbv r++10::zaO rs:=by
 unfold zaO
 rw[List.flatMap_cons,List.append_assoc]
 rfl
theorem zhx(a b:List RowL):zaO (a++b)=zaO a++zaO b:=List.flatMap_append
theorem zcq{rs:List RowL}(h:∀r∈rs,zcJ r):(zaO rs).length≤6000001*rs.length:=by
 induction rs with
 |nil=>exact Nat.zero_le _
 |cons r rs ih=>
  have h1:=ih fun x hx=>h x (List.mem_cons_of_mem _ hx)
  have h2:=(zdh (h r (List.mem_cons_self ..))).1
  rw[zby,List.length_append,List.length_cons,List.length_cons]
  omega
theorem zgr:∀(rs:List RowL),(∀r∈rs,zcJ r)→∀k,k<(zaO rs).length→∃j t,j≤rs.length∧t.length≤6000000∧(zaO rs).take k=zaO (rs.take j)++t∧(10:UInt8)∉t∧((zaO rs).take k).count 10=j∧(t=[]↔k=0∨(zaO rs)[k - 1]? =some 10)
 | [],_,k,h=>by simp[zaO]at h
 |r::rs,hr,k,h=>by
  have hnl:=zh1 (hr r (List.mem_cons_self ..))
  rw[zby]at h ⊢
  by_cases hk:k≤(zbv r).length
  ·refine⟨0,(zbv r).take k,Nat.zero_le _,by rw[List.length_take];have:=(zdh (hr r (List.mem_cons_self ..))).1;omega,?_,fun hc=>hnl (List.mem_of_mem_take hc),?_,?_⟩
   ·rw[List.take_append_of_le_length hk];rfl
   ·rw[List.take_append_of_le_length hk]
    exact List.count_eq_zero.2 fun hc=>hnl (List.mem_of_mem_take hc)
   ·constructor
    ·intro e
     rw[List.take_eq_nil_iff]at e
     rcases e with e|e
     ·exact .inl e
     ·rw[e]at hk;exact .inl (by simpa using hk)
    ·rintro(e|e)
     ·rw[e];rfl
     ·by_cases h0:k=0
      ·rw[h0];rfl
      ·rw[List.getElem?_append_left (by omega)]at e
       exact absurd (List.mem_of_getElem? e) hnl
  ·have hk1:k=(zbv r).length+1+(k - ((zbv r).length+1)):=by omega
   obtain⟨m,hm⟩:∃m,k - ((zbv r).length+1)=m:=⟨_,rfl⟩
   rw[hm]at hk1
   rw[List.length_append,List.length_cons]at h
   have hsp:∀u:Lab,zbv r++10::u=(zbv r++ [10])++u:=fun u=>by simp
   have htk:(zbv r++10::zaO rs).take k=(zbv r++ [10])++(zaO rs).take m:=by
    rw[hsp,List.take_append,List.take_of_length_le (by simp;omega)]
    congr 2
    simp;omega
   by_cases hm0:m=0
   ·refine⟨1,[],by simp,by simp,?_,by simp,?_,?_⟩
    ·rw[htk,hm0];simp[zaO]
    ·rw[htk,hm0,List.take_zero,List.append_nil,List.count_append,List.count_eq_zero.2 hnl];rfl
    ·refine⟨fun _=> .inr ?_,fun _=>rfl⟩
     rw[List.getElem?_append_right (by omega),show k - 1 - (zbv r).length=0 by omega]
     rfl
   ·obtain⟨j,t,h1,h0,h2,h3,h4,h5⟩:=zgr rs (fun x hx=>hr x (List.mem_cons_of_mem _ hx)) m (by omega)
    refine⟨j+1,t,by simpa using h1,h0,?_,h3,?_,?_⟩
    ·rw[htk,h2,List.take_succ_cons,zby]
     simp
    ·rw[htk,List.count_append,List.count_append,List.count_eq_zero.2 hnl,h4]
     show 0+1+j=_
     omega
    ·rw[h5]
     have e:(zbv r++10::zaO rs)[k - 1]? =(zaO rs)[m - 1]?:=by
      rw[hsp,List.getElem?_append_right (by simp;omega)]
      congr 1
      simp;omega
     rw[e]
     constructor
     ·rintro(h|h)
      ·exact absurd h hm0
      ·exact .inr h
     ·rintro(h|h)
      ·omega
      ·exact .inr h
def ixB(q:Nat→Bool)(n:Nat):Int:=match (List.range n).find? q with
 |some k=>(k:Int)
 |Option.none=> -1
theorem ze7{q:Nat→Bool}{n i:Nat}(hi:i<n)(hq:q i=true)(hl:∀j,j<i→q j=false):ixB q n=(i:Int):=by
 have:(List.range n).find? q=some i:=by
  rw[List.find?_range_eq_some]
  exact⟨hq,List.mem_range.2 hi,fun j hj=>by rw[hl j hj];rfl⟩
 unfold ixB
 rw[this]
theorem ze6{q:Nat→Bool}{n:Nat}(hl:∀j,j<n→q j=false):ixB q n= -1:=by
 have:(List.range n).find? q=Option.none:=by
  rw[List.find?_eq_none]
  intro x hx
  rw[hl x (List.mem_range.1 hx)];decide
 unfold ixB
 rw[this]
theorem zdj{q:Nat→Bool}{n:Nat}(h:0≤ixB q n):∃i,i<n∧q i=true:=by
 unfold ixB at h
 split at h
 ·rename_i k hk
  rw[List.find?_range_eq_some]at hk
  exact⟨k,List.mem_range.1 hk.2.1,hk.1⟩
 ·omega
theorem ixB_none{q:Nat→Bool}{n:Nat}(h:¬0≤ixB q n):∀i,i<n→q i=false:=by
 unfold ixB at h
 split at h
 ·omega
 ·rename_i hk
  rw[List.find?_eq_none]at hk
  intro i hi
  simpa using hk i (List.mem_range.2 hi)
theorem zgE{w:World}{a:Option Addr}{n c:Nat}{N:FuncId}{cap:Value}{q:Nat→Bool}(hN:zah Tryz.prog N=true)(hn:n≤1000000000)(hg:∀i,i<n→∃cs:List Value,zao w (adr a (i*6)) 6=some cs∧∀v,Ext w v→Fn Tryz.prog N #[.agg cs.toArray,cap] v (fun u v'=>u= .bool (q i)∧Ext v v')):
  Fn Tryz.prog 224 #[.slice a n c,.func (.func N) #[] #[cap]] w (fun u w'=>u=vi (ixB q n)∧Ext w w'):=by
 refine enter Tryz.func224 Tryz.ntmps224 rfl rfl ?_
 refine go trivial ?_
 refine zbq n (fun i σ v=>(σ 0= .slice a n c∧σ 1= .func (.func N) #[] #[cap]∧σ 7=vi n∧σ 8=vi i)∧Ext w v∧∀j,j<i→q j=false) ?_ ?_ ?_
 ·exact⟨⟨vr0,vr0,vr0,vr0⟩,Keep.refl _ _,fun j h=>by omega⟩
 ·rintro i σ v hi r ⟨⟨s0,s1,s7,s8⟩,hE,hlow⟩
  obtain⟨cs,g0,hF⟩:=hg i hi
  have g:=zai hE g0
  obtain⟨xa,rfl⟩:=Option.isSome_iff_exists.1 (zaF g)
  obtain⟨xi,hxi⟩:∃xi,adr (some xa) (i*6)=some xi:=⟨_,rfl⟩
  rw[hxi]at g
  have hi0:(0:Int)≤(i:Int):=by omega
  have hi1:(i:Int)<(n:Int):=by omega
  have hi2:(i:Int)+1=((i+1:Nat):Int):=by push_cast;rfl
  refine go (an5 s0 s1 s7 s8 r) ?_
  refine rc (an8 s0 s1 s8 g hi0 hi1 hxi hN) (hF v hE) ?_
  rintro _ v1 ⟨rfl,hE1⟩
  cases hq:q i with
  |true=>
   refine rgo (an2 s0 s8) ?_
   refine zaf (.inr rfl) Tryz.ntmps224 rfl (zac ((vr1 s8)) zae) ?_
   exact⟨by rw[ze7 hi hq hlow];rfl,hE.trans hE1⟩
  |false=>
   refine rgo (an5 s0 s1 s7 s8 hi2) ?_
   refine⟨rfl,⟨(vq1 s0),(vq1 s1),(vq1 s7),(vq1 hi2)⟩,hE.trans hE1,fun j hj=>?_⟩
   by_cases e:j=i
   ·rw[e];exact hq
   ·exact hlow j (by omega)
 ·rintro σ v r ⟨⟨s0,s1,s7,s8⟩,hE,hlow⟩
  refine go (an5 s0 s1 s7 s8 r) ?_
  refine zaf (.inr rfl) Tryz.ntmps224 rfl (zac (vr0) zae) ?_
  exact⟨by rw[ze6 hlow];rfl,hE⟩
theorem ziP{w:World}{a:Option Addr}{n c:Nat}{N:FuncId}{cap:Value}{q:Nat→Bool}(hN:zah Tryz.prog N=true)(hn:n≤1000000000)(hg:∀i,i<n→∃cs:List Value,zao w (adr a (i*6)) 6=some cs∧∀v,Ext w v→Fn Tryz.prog N #[.agg cs.toArray,cap] v (fun u v'=>u= .bool (q i)∧Ext v v')):
  Fn Tryz.prog 173 #[.slice a n c,.func (.func N) #[] #[cap]] w (fun u w'=>u= .bool (decide (0≤ixB q n))∧Ext w w'):=by
 refine enter Tryz.func173 Tryz.ntmps173 rfl rfl ?_
 refine go trivial ?_
 refine rc trivial (zgE hN hn hg) ?_
 rintro _ w1 ⟨rfl,hE1⟩
 refine rgo trivial ?_
 refine rt0 Tryz.ntmps173 ?_
 exact⟨rfl,hE1⟩
theorem IxPlc_ok{w:World}{a:Option Addr}{n c:Nat}{N:FuncId}{cap:Value}{q:Nat→Bool}(hN:zah Tryz.prog N=true)(hn:n≤1000000000)(hg:∀i,i<n→∃cs:List Value,zao w (adr a (i*2)) 2=some cs∧∀v,Ext w v→Fn Tryz.prog N #[.agg cs.toArray,cap] v (fun u v'=>u= .bool (q i)∧Ext v v')):
  Fn Tryz.prog 268 #[.slice a n c,.func (.func N) #[] #[cap]] w (fun u w'=>u=vi (ixB q n)∧Ext w w'):=by
 refine enter Tryz.func268 Tryz.ntmps268 rfl rfl ?_
 refine go trivial ?_
 refine zbq n (fun i σ v=>(σ 0= .slice a n c∧σ 1= .func (.func N) #[] #[cap]∧σ 7=vi n∧σ 8=vi i)∧Ext w v∧∀j,j<i→q j=false) ?_ ?_ ?_
 ·exact⟨⟨vr0,vr0,vr0,vr0⟩,Keep.refl _ _,fun j h=>by omega⟩
 ·rintro i σ v hi r ⟨⟨s0,s1,s7,s8⟩,hE,hlow⟩
  obtain⟨cs,g0,hF⟩:=hg i hi
  have g:=zai hE g0
  obtain⟨xa,rfl⟩:=Option.isSome_iff_exists.1 (zaF g)
  obtain⟨xi,hxi⟩:∃xi,adr (some xa) (i*2)=some xi:=⟨_,rfl⟩
  rw[hxi]at g
  have hi0:(0:Int)≤(i:Int):=by omega
  have hi1:(i:Int)<(n:Int):=by omega
  have hi2:(i:Int)+1=((i+1:Nat):Int):=by push_cast;rfl
  refine go (an5 s0 s1 s7 s8 r) ?_
  refine rc (an8 s0 s1 s8 g hi0 hi1 hxi hN) (hF v hE) ?_
  rintro _ v1 ⟨rfl,hE1⟩
  cases hq:q i with
  |true=>
   refine rgo (an2 s0 s8) ?_
   refine zaf (.inr rfl) Tryz.ntmps268 rfl (zac ((vr1 s8)) zae) ?_
   exact⟨by rw[ze7 hi hq hlow];rfl,hE.trans hE1⟩
  |false=>
   refine rgo (an5 s0 s1 s7 s8 hi2) ?_
   refine⟨rfl,⟨(vq1 s0),(vq1 s1),(vq1 s7),(vq1 hi2)⟩,hE.trans hE1,fun j hj=>?_⟩
   by_cases e:j=i
   ·rw[e];exact hq
   ·exact hlow j (by omega)
 ·rintro σ v r ⟨⟨s0,s1,s7,s8⟩,hE,hlow⟩
  refine go (an5 s0 s1 s7 s8 r) ?_
  refine zaf (.inr rfl) Tryz.ntmps268 rfl (zac (vr0) zae) ?_
  exact⟨by rw[ze6 hlow];rfl,hE⟩
theorem ziQ{w:World}{a:Option Addr}{n c:Nat}{N:FuncId}{cap:Value}{q:Nat→Bool}(hN:zah Tryz.prog N=true)(hn:n≤1000000000)(hg:∀i,i<n→∃cs:List Value,zao w (adr a (i*2)) 2=some cs∧∀v,Ext w v→Fn Tryz.prog N #[.agg cs.toArray,cap] v (fun u v'=>u= .bool (q i)∧Ext v v')):
  Fn Tryz.prog 226 #[.slice a n c,.func (.func N) #[] #[cap]] w (fun u w'=>u= .bool (decide (0≤ixB q n))∧Ext w w'):=by
 refine enter Tryz.func226 Tryz.ntmps226 rfl rfl ?_
 refine go trivial ?_
 refine rc trivial (IxPlc_ok hN hn hg) ?_
 rintro _ w1 ⟨rfl,hE1⟩
 refine rgo trivial ?_
 refine rt0 Tryz.ntmps226 ?_
 exact⟨rfl,hE1⟩
theorem IxInt_ok{w:World}{a:Option Addr}{n c:Nat}{N:FuncId}{cap:Value}{q:Nat→Bool}(hN:zah Tryz.prog N=true)(hn:n≤1000000000)(hg:∀i,i<n→∃x:Value,one x=true∧zag w (adr a i)=some x∧∀v,Ext w v→Fn Tryz.prog N #[x,cap] v (fun u v'=>u= .bool (q i)∧Ext v v')):
  Fn Tryz.prog 264 #[.slice a n c,.func (.func N) #[] #[cap]] w (fun u w'=>u=vi (ixB q n)∧Ext w w'):=by
 refine enter Tryz.func264 Tryz.ntmps264 rfl rfl ?_
 refine go trivial ?_
 refine zbq n (fun i σ v=>(σ 0= .slice a n c∧σ 1= .func (.func N) #[] #[cap]∧σ 7=vi n∧σ 8=vi i)∧Ext w v∧∀j,j<i→q j=false) ?_ ?_ ?_
 ·exact⟨⟨vr0,vr0,vr0,vr0⟩,Keep.refl _ _,fun j h=>by omega⟩
 ·rintro i σ v hi r ⟨⟨s0,s1,s7,s8⟩,hE,hlow⟩
  obtain⟨x,hx1,g0,hF⟩:=hg i hi
  have g:=zaa hE g0
  obtain⟨xa,rfl⟩:=Option.isSome_iff_exists.1 (zaj g0)
  have hi0:(0:Int)≤(i:Int):=by omega
  have hi1:(i:Int)<(n:Int):=by omega
  have hi2:(i:Int)+1=((i+1:Nat):Int):=by push_cast;rfl
  refine go (an5 s0 s1 s7 s8 r) ?_
  refine rc (an8 s0 s1 s8 g hi0 hi1 (Nat.mul_one i) hN) (hF v hE) ?_
  rintro _ v1 ⟨rfl,hE1⟩
  cases hq:q i with
  |true=>
   refine rgo (an2 s0 s8) ?_
   refine zaf (.inr rfl) Tryz.ntmps264 rfl (zac ((vr1 s8)) zae) ?_
   exact⟨by rw[ze7 hi hq hlow];rfl,hE.trans hE1⟩
  |false=>
   refine rgo (an5 s0 s1 s7 s8 hi2) ?_
   refine⟨rfl,⟨(vq1 s0),(vq1 s1),(vq1 s7),(vq1 hi2)⟩,hE.trans hE1,fun j hj=>?_⟩
   by_cases e:j=i
   ·rw[e];exact hq
   ·exact hlow j (by omega)
 ·rintro σ v r ⟨⟨s0,s1,s7,s8⟩,hE,hlow⟩
  refine go (an5 s0 s1 s7 s8 r) ?_
  refine zaf (.inr rfl) Tryz.ntmps264 rfl (zac (vr0) zae) ?_
  exact⟨by rw[ze6 hlow];rfl,hE⟩
theorem ziS{w:World}{a:Option Addr}{n c:Nat}{N:FuncId}{cap:Value}{q:Nat→Bool}(hN:zah Tryz.prog N=true)(hn:n≤1000000000)(hg:∀i,i<n→∃x:Value,one x=true∧zag w (adr a i)=some x∧∀v,Ext w v→Fn Tryz.prog N #[x,cap] v (fun u v'=>u= .bool (q i)∧Ext v v')):
  Fn Tryz.prog 222 #[.slice a n c,.func (.func N) #[] #[cap]] w (fun u w'=>u= .bool (decide (0≤ixB q n))∧Ext w w'):=by
 refine enter Tryz.func222 Tryz.ntmps222 rfl rfl ?_
 refine go trivial ?_
 refine rc trivial (IxInt_ok hN hn hg) ?_
 rintro _ w1 ⟨rfl,hE1⟩
 refine rgo trivial ?_
 refine rt0 Tryz.ntmps222 ?_
 exact⟨rfl,hE1⟩
theorem IxOct_ok{w:World}{a:Option Addr}{n c:Nat}{N:FuncId}{q:Nat→Bool}(hN:zah Tryz.prog N=true)(hn:n≤1000000000)(hg:∀i,i<n→∃x:Value,one x=true∧zag w (adr a i)=some x∧∀v,Ext w v→Fn Tryz.prog N #[x] v (fun u v'=>u= .bool (q i)∧Ext v v')):
  Fn Tryz.prog 284 #[.slice a n c,.func (.func N) #[] #[]] w (fun u w'=>u=vi (ixB q n)∧Ext w w'):=by
 refine enter Tryz.func284 Tryz.ntmps284 rfl rfl ?_
 refine go trivial ?_
 refine zbq n (fun i σ v=>(σ 0= .slice a n c∧σ 1= .func (.func N) #[] #[]∧σ 7=vi n∧σ 8=vi i)∧Ext w v∧∀j,j<i→q j=false) ?_ ?_ ?_
 ·exact⟨⟨vr0,vr0,vr0,vr0⟩,Keep.refl _ _,fun j h=>by omega⟩
 ·rintro i σ v hi r ⟨⟨s0,s1,s7,s8⟩,hE,hlow⟩
  obtain⟨x,hx1,g0,hF⟩:=hg i hi
  have g:=zaa hE g0
  obtain⟨xa,rfl⟩:=Option.isSome_iff_exists.1 (zaj g0)
  have hi0:(0:Int)≤(i:Int):=by omega
  have hi1:(i:Int)<(n:Int):=by omega
  have hi2:(i:Int)+1=((i+1:Nat):Int):=by push_cast;rfl
  refine go (an5 s0 s1 s7 s8 r) ?_
  refine rc (an8 s0 s1 s8 g hi0 hi1 (Nat.mul_one i) hN) (hF v hE) ?_
  rintro _ v1 ⟨rfl,hE1⟩
  cases hq:q i with
  |true=>
   refine rgo (an2 s0 s8) ?_
   refine zaf (.inr rfl) Tryz.ntmps284 rfl (zac ((vr1 s8)) zae) ?_
   exact⟨by rw[ze7 hi hq hlow];rfl,hE.trans hE1⟩
  |false=>
   refine rgo (an5 s0 s1 s7 s8 hi2) ?_
   refine⟨rfl,⟨(vq1 s0),(vq1 s1),(vq1 s7),(vq1 hi2)⟩,hE.trans hE1,fun j hj=>?_⟩
   by_cases e:j=i
   ·rw[e];exact hq
   ·exact hlow j (by omega)
 ·rintro σ v r ⟨⟨s0,s1,s7,s8⟩,hE,hlow⟩
  refine go (an5 s0 s1 s7 s8 r) ?_
  refine zaf (.inr rfl) Tryz.ntmps284 rfl (zac (vr0) zae) ?_
  exact⟨by rw[ze6 hlow];rfl,hE⟩
theorem ziR{w:World}{a:Option Addr}{n c:Nat}{N:FuncId}{q:Nat→Bool}(hN:zah Tryz.prog N=true)(hn:n≤1000000000)(hg:∀i,i<n→∃x:Value,one x=true∧zag w (adr a i)=some x∧∀v,Ext w v→Fn Tryz.prog N #[x] v (fun u v'=>u= .bool (q i)∧Ext v v')):
  Fn Tryz.prog 266 #[.slice a n c,.func (.func N) #[] #[]] w (fun u w'=>u= .bool (decide (0≤ixB q n))∧Ext w w'):=by
 refine enter Tryz.func266 Tryz.ntmps266 rfl rfl ?_
 refine go trivial ?_
 refine rc trivial (IxOct_ok hN hn hg) ?_
 rintro _ w1 ⟨rfl,hE1⟩
 refine rgo trivial ?_
 refine rt0 Tryz.ntmps266 ?_
 exact⟨rfl,hE1⟩
end Go.Proofs.YtanmnkbccfcagaaGreatDoor
