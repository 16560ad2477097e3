/-
  Texts of a proof, joined: B0, L9, R4, GA, GB, GC, GD, K27, KC, KN, K32, GE, GF, HC, K25, HA, HD, GG, K28, GH.
  Conditions: none.
-/
import Derived.Test.YtihbdhjibplldaaGreatDoorQLM02
import Derived.Test.YtihbdhjibplldaaGreatDoorProg
import Derived.Shelf.LaysM
import Derived.Ground.MpProg
import Derived.Shelf.Strings.Cut
import Derived.Shelf.Strings.SlTrimAscii
import Derived.Shelf.Pu.ErrVarParseUint
import Derived.Shelf.Strings.Prefix
import Derived.Shelf.Small.Wraps
import Derived.Shelf.Strings.Split
import Derived.Shelf.Strconv.Itoa4
import Derived.Shelf.Bits.Mul64
import Derived.Lib.IndexMore
import Derived.Lib.ItoaNum
import Derived.Test.YtihbdhjibplldaaGreatDoorQLM01
import Derived.ProofKit
import Derived.OpenShut
import Derived.SizedLaws
import Derived.Deep.Slices
import Derived.Lib.LaidTab
import Derived.Lib.ConvBytes
import Derived.Lib.BufferWrite
import Derived.Deep.WholeRow
import Derived.WalkKit
import Derived.Lib.MakeNoZero
set_option linter.unusedVariables false
set_option linter.unusedSimpArgs false
set_option linter.defProp false
set_option linter.unnecessarySimpa false
set_option maxHeartbeats 8000000
namespace Go.Proofs.YtihbdhjibplldaaGreatDoor
open Go
set_option maxRecDepth 10000
structure Bld(B:Nat)(w:World)(b:Nat)(bs:List UInt8):Prop where
 ex:∃p v,(p= .pointer Option.none∨p= .pointer (some ⟨b,0,Option.none⟩))∧w.heap[b]? =some (.cells #[p,v] 97 (0,0))∧Own B w 5 v (bs.map zao)
theorem ze4{B:Nat}{w:World}{e:TypeId}{v:Value}{l:List Value}(h:Own B w e v l){b:Nat}(hb:some b=v.ownBlock):∃cur fr,w.heap[b]? =some (.cells cur e fr):=by
 rcases h.2 with ⟨rfl,_⟩| ⟨g,cap,cur,rfl,_,hg,_⟩
 ·cases hb
 ·cases hb;exact⟨_,_,hg⟩
theorem bld_ne{B:Nat}{w:World}{v p:Value}{l:List Value}{b:Nat}(h:Own B w 5 v l)(hb:w.heap[b]? =some (.cells #[p,v] 97 (0,0))):some b≠v.ownBlock:=fun he=>by
 obtain⟨cur,fr,h1⟩:=ze4 h he
 rw[hb]at h1
 injection h1 with h1
 injection h1 with _ h2
 revert h2;decide
theorem zfY(l:List UInt8):∀q∈l.map zao,one q=true:=fun q hq=>by
 obtain⟨c,_,rfl⟩:=List.mem_map.1 hq;rfl
theorem zcn{w:World}{b:Nat}{p v:Value}(hp:p= .pointer Option.none∨p= .pointer (some ⟨b,0,Option.none⟩))(hb:w.heap[b]? =some (.cells #[p,v] 97 (0,0))):
  Fn Tryz.prog 63 #[.pointer (some ⟨b,0,Option.none⟩)] w (fun _ w'=>w'.heap[b]? =some (.cells #[.pointer (some ⟨b,0,Option.none⟩),v] 97 (0,0))∧Keep (fun i=>i=b) w w'∧w'.heap.size=w.heap.size):=by
 have c0:zad w (some ⟨b,0,Option.none⟩)=some p:=zaa hb rfl
 obtain⟨j,hj,hjs⟩:∃j,Tryz.prog.info? 97=some j∧j.size≠0:=by
  have:(Tryz.prog.info? 97).map (·.size)=some 2:=by kernel_rfl
  obtain⟨j,h1,h2⟩:=Option.map_eq_some_iff.1 this
  exact⟨j,h1,by rw[h2];decide⟩
 rcases hp with rfl|rfl
 ·refine enter Tryz.func63 Tryz.ntmps63 rfl rfl ?_
  repeat refine c_r ?_
  refine rq ?_;intro gd K hgd hK
  try simp (disch:=first|omega|assumption|rfl) only[go_sem,c0,Nat.add_zero]
  refine hK _ _ ?_;clear hK hgd;clear K;try clear gd
  repeat refine c_r ?_
  refine wc0 ?_ ?_
  ·intro _
   have hsh:w.shape? b=some (97,2):=by simp[World.shape?,hb]
   repeat refine c_r ?_
   refine rq ?_;intro gd K hgd hK
   try simp only[go_sem]
   refine ziU (by rfl) (Lib.run_to_unsafe w ⟨b,0,Option.none⟩ (by rfl) (by rfl) hj hjs hsh (Nat.zero_lt_succ 1)) ?_
   try simp only[go_sem]
   refine⟨.pointer (some ⟨b,0,Option.none⟩),w,?_,?_⟩
   ·rw[run_callFunc_extern (show Tryz.prog.funcs[89]? =_ from Tryz.func89) (by kernel_rfl) (by kernel_rfl) (by kernel_rfl) (e:=Extern.AbiNoEscape.same) (by kernel_rfl)]
    rw[Lib.run_noEscape]
    rfl
   try simp only[go_sem]
   refine ziU (by rfl) (Lib.run_from_unsafe w ⟨b,0,Option.none⟩ (by rfl) (by rfl) hj hsh (by kernel_rfl)) ?_
   try simp only[go_sem]
   refine zcG (P:=Tryz.prog) (t:=95) (j:=0) (l:=[.pointer Option.none,v]) hb (by simp) rfl rfl rfl ?_
   intro w1 hs1 hb1 hk1
   try simp only[go_sem]
   refine hK _ _ ?_;clear hK hgd;clear K;try clear gd
   repeat refine c_r ?_
   exact zaA (by simp) rfl ⟨by simpa using hb1,hk1,hs1⟩
  ·intro h;cases h
 ·refine enter Tryz.func63 Tryz.ntmps63 rfl rfl ?_
  repeat refine c_r ?_
  refine rq ?_;intro gd K hgd hK
  try simp (disch:=first|omega|assumption|rfl) only[go_sem,c0,Nat.add_zero]
  refine hK _ _ ?_;clear hK hgd;clear K;try clear gd
  repeat refine c_r ?_
  refine wc0 ?_ ?_
  ·intro h;cases h
  intro _
  repeat refine c_r ?_
  refine rq ?_;intro gd K hgd hK
  try simp (disch:=first|omega|assumption|rfl) only[go_sem,c0,Nat.add_zero]
  refine zf2 (by rfl) hj (by rfl) (by rfl) ?_
  try simp only[go_sem]
  refine hK _ _ ?_;clear hK hgd;clear K;try clear gd
  repeat refine c_r ?_
  refine wc0 ?_ ?_
  ·intro h;cases h
  intro _
  repeat refine c_r ?_
  exact zaA (by simp) rfl ⟨hb,Keep.refl _ _,rfl⟩
theorem zay{B:Nat}{w:World}{b:Nat}{bs s:List UInt8}(h:Bld B w b bs)(hB:B≤w.heap.size)(hlen:bs.length+s.length≤100000000000):
  Fn Tryz.prog 46 #[.pointer (some ⟨b,0,Option.none⟩),vs s] w (fun _ w'=>Bld B w' b (bs++s)∧Keep (fun i=>i=b∨B≤i) w w'):=by
 obtain⟨p,v,hp,hb,hown⟩:=h.ex
 have hne:=bld_ne hown hb
 obtain⟨inf,hi,hz,hsz,hby⟩:=info_parts (P:=Tryz.prog) (e:=5) (z:= .int .u8 0) (size:=1) (bytes:=1) (by kernel_rfl)
 refine enter Tryz.func46 Tryz.ntmps46 rfl rfl ?_
 repeat refine c_r ?_
 refine rg0 ?_
 repeat refine c_r ?_
 refine rq ?_;intro gd K hgd hK
 try simp only[go_sem]
 refine Fn.mono (zcn hp hb) ?_
 rintro _ w1 ⟨hb1,hk1,hs1⟩
 try simp only[go_sem]
 refine hK _ _ ?_;clear hK hgd;clear K;try clear gd
 have hown1:=hown.keep hk1 (fun i hi he=>hne (he▸hi))
 have c1:zad w1 (some ⟨b,1,Option.none⟩)=some v:=zaa hb1 rfl
 repeat refine c_r ?_
 refine rq ?_;intro gd K hgd hK
 try simp (disch:=first|omega|assumption|rfl) only[go_sem,c1,Nat.zero_add]
 refine op_appS hown1 (by rfl) (by rfl) hi hz hsz hby (by rfl) (by rfl) (by simpa using hlen) (by omega) ?_
 intro v2 w2 hown2 hk2
 try simp only[go_sem]
 have hb2:=(hk2.block b (Array.getElem?_eq_some_iff.1 hb1).1 hne).trans hb1
 have hne2:some b≠v2.ownBlock:=fun he=>by
  obtain⟨cur,fr,h1⟩:=ze4 hown2 he
  rw[hb2]at h1
  injection h1 with h1
  injection h1 with _ h2
  revert h2;decide
 obtain⟨a2,c2,hv2⟩:=hown2.slice
 refine zcG (P:=Tryz.prog) (t:=32) (j:=1) (l:=[.pointer (some ⟨b,0,Option.none⟩),v]) hb2 (by simp) (by rw[hv2];rfl) rfl rfl ?_
 intro w3 hs3 hb3 hk3
 try simp only[go_sem]
 refine hK _ _ ?_;clear hK hgd;clear K;try clear gd
 have hown3:=hown2.keep hk3 (fun i hi he=>hne2 (he▸hi))
 repeat refine c_r ?_
 refine rg0 ?_
 repeat refine c_r ?_
 refine zaf (.inr rfl) Tryz.ntmps46 rfl (zac rfl (zac rfl zae)) ?_
 refine⟨⟨⟨_,v2,.inr rfl,by simpa using hb3,by rw[List.map_append];exact hown3⟩⟩,?_⟩
 exact((hk1.mono (fun i _ h=> .inl h)).trans (hk2.mono (fun i _ h=> .inr (hown1.ge h).1))).trans (hk3.mono (fun i _ h=> .inl h))
theorem zaH{B:Nat}{w:World}{b:Nat}{bs:List UInt8}{c:UInt8}(h:Bld B w b bs)(hB:B≤w.heap.size)(hlen:bs.length+1≤100000000000):
  Fn Tryz.prog 68 #[.pointer (some ⟨b,0,Option.none⟩),zao c] w (fun _ w'=>Bld B w' b (bs++ [c])∧Keep (fun i=>i=b∨B≤i) w w'):=by
 obtain⟨p,v,hp,hb,hown⟩:=h.ex
 have hne:=bld_ne hown hb
 refine enter Tryz.func68 Tryz.ntmps68 rfl rfl ?_
 repeat refine c_r ?_
 refine rg0 ?_
 repeat refine c_r ?_
 refine rq ?_;intro gd K hgd hK
 try simp only[go_sem]
 refine Fn.mono (zcn hp hb) ?_
 rintro _ w1 ⟨hb1,hk1,hs1⟩
 try simp only[go_sem]
 refine hK _ _ ?_;clear hK hgd;clear K;try clear gd
 have hown1:=hown.keep hk1 (fun i hi he=>hne (he▸hi))
 have c1:zad w1 (some ⟨b,1,Option.none⟩)=some v:=zaa hb1 rfl
 repeat refine c_r ?_
 refine rq ?_;intro gd K hgd hK
 try simp (disch:=first|omega|assumption|rfl) only[go_sem,c1,Nat.zero_add]
 refine za5 (z:= .int .u8 0) (v:=zao c) (by rfl) (by rfl) (by rfl) (by rfl) (by rfl) ?_
 intro x1 hX1 hXs hXo
 try simp only[go_sem]
 refine za2 (B:=B) (hown1.ext hX1) hXo.row (by rfl) (by rfl) (by rfl) (by rfl) (by rfl) (by rfl) (by rfl) (by rfl) (zfY [c]) (by simp;omega) (by decide) (by have:=hX1.size;omega) ?_
 intro v2 w2 hown2 _ hk2 hfr
 try simp only[go_sem]
 have hb2:=(hk2.block b (by have:=(Array.getElem?_eq_some_iff.1 hb1).1;have:=hX1.size;omega) hne).trans (Ext.at hX1 hb1)
 have hne2:some b≠v2.ownBlock:=fun he=>by
  obtain⟨cur,fr,h1⟩:=ze4 hown2 he
  rw[hb2]at h1
  injection h1 with h1
  injection h1 with _ h2
  revert h2;decide
 obtain⟨a2,c2,hv2⟩:=hown2.slice
 refine zcG (P:=Tryz.prog) (t:=32) (j:=1) (l:=[.pointer (some ⟨b,0,Option.none⟩),v]) hb2 (by simp) (by rw[hv2];rfl) rfl rfl ?_
 intro w3 hs3 hb3 hk3
 try simp only[go_sem]
 refine hK _ _ ?_;clear hK hgd;clear K;try clear gd
 have hown3:=hown2.keep hk3 (fun i hi he=>hne2 (he▸hi))
 repeat refine c_r ?_
 refine rg0 ?_
 repeat refine c_r ?_
 refine zaf (.inr rfl) Tryz.ntmps68 rfl (zac rfl zae) ?_
 refine⟨⟨⟨_,v2,.inr rfl,by simpa using hb3,by rw[List.map_append];exact hown3⟩⟩,?_⟩
 exact(((hk1.mono (fun i _ h=> .inl h)).trans (hX1.mono (fun i _ h=>h.elim))).trans (hk2.mono (fun i _ h=> .inr (hown1.ge h).1))).trans (hk3.mono (fun i _ h=> .inl h))
theorem zeb(w:World)(p:Addr)(n:Nat):Keep (fun i=>i=p.block) w (w.freeze p n):=by
 unfold World.freeze
 split
 ·exact Keep.refl _ _
 ·exact⟨rfl,rfl,rfl,by simp,fun k hk hne=>by
   simp only[Array.getElem?_modify]
   rw[if_neg (fun h=>hne h.symm)],Nat.le_refl _⟩
theorem zb3{B:Nat}{w:World}{b:Nat}{bs:List UInt8}(h:Bld B w b bs)(hlen:bs.length≤100000000000):
  Fn Tryz.prog 47 #[.pointer (some ⟨b,0,Option.none⟩)] w (fun v w'=>v=vs bs∧Keep (fun i=>B≤i) w w'):=by
 obtain⟨p,v,hp,hb,hown⟩:=h.ex
 rcases hown.2 with ⟨rfl,hl⟩| ⟨g,cap,cur,rfl,hgB,hg,hn,hcap,hcs,hx⟩
 ·have h0:bs=[]:=by simpa using hl
  subst h0
  refine enter Tryz.func47 Tryz.ntmps47 rfl rfl ?_
  repeat refine c_r ?_
  refine rg0 ?_
  repeat refine c_r ?_
  refine zaS (fun _=>false) [(0,true),(1,true),(2,true),(3,true),(5,true),(6,true),(7,true),(8,true),(9,true),(4,false),(10,false),(11,true)] NoS mixed (by kernel_rfl) ?_;intro gd K x hgd hx hxe hK;have hx0:=zaP hxe;clear hxe
  have c1:zad x (some ⟨b,1,Option.none⟩)=some (.slice Option.none 0 0):=zaa (Ext.at hx0 hb) rfl
  simp (disch:=first|omega|assumption|rfl) only[go_sem,c1,Nat.zero_add]
  refine zbO (u:= .slice Option.none 0 0) (vq0) (Lib.run_unsafeSliceData_nil _ _ _ _ _) ?_
  refine⟨.inr (Keep.refl _ _),?_⟩
  refine za4 (u:= .pointer Option.none) (z:=vi 0) (vq0) (vr0) (Lib.run_unsafeString_none (P:=Tryz.prog) _ _ _ _ _) ?_
  refine⟨.inr (Keep.refl _ _),?_⟩
  refine hK _ _ ?_;clear hK hgd;clear K;try clear gd
  repeat refine c_r ?_
  refine zaf (.inr rfl) Tryz.ntmps47 rfl (zac (vr0) zae) ?_
  exact⟨rfl,hx0.mono (fun i _ h=>h.elim)⟩
 by_cases h0:bs=[]
 ·subst h0
  refine enter Tryz.func47 Tryz.ntmps47 rfl rfl ?_
  repeat refine c_r ?_
  refine rg0 ?_
  repeat refine c_r ?_
  refine zaS (fun _=>false) [(0,true),(1,true),(2,true),(3,true),(5,true),(6,true),(7,true),(8,true),(9,true),(4,false),(10,false),(11,true)] NoS mixed (by kernel_rfl) ?_;intro gd K x hgd hx hxe hK;have hx0:=zaP hxe;clear hxe
  have c1:zad x (some ⟨b,1,Option.none⟩)=some (.slice (some ⟨g,0,Option.none⟩) 0 cap):=zaa (Ext.at hx0 hb) rfl
  have hgx:=Ext.at hx0 hg
  simp (disch:=first|omega|assumption|rfl) only[go_sem,c1,Nat.zero_add]
  by_cases hc0:cap=0
  ·subst hc0
   refine zbO (u:= .slice (some ⟨g,0,Option.none⟩) 0 0) (vq0) (Lib.run_unsafeSliceData_zero (P:=Tryz.prog) _ _ _ 5 (by rfl) _ _ _ (by simp only[World.shape?,hgx];rfl)) ?_
   refine⟨.inr (Ext.alloc x _),?_⟩
   refine za4 (u:= .pointer (some ⟨x.heap.size,0,Option.none⟩)) (z:=vi 0) (vq0) (vr0) (Lib.run_unsafeString_none (P:=Tryz.prog) _ _ _ _ _) ?_
   refine⟨.inr (Keep.refl _ _),?_⟩
   refine hK _ _ ?_;clear hK hgd;clear K;try clear gd
   repeat refine c_r ?_
   refine zaf (.inr rfl) Tryz.ntmps47 rfl (zac (vr0) zae) ?_
   exact⟨rfl,(hx0.trans (Ext.alloc x _)).mono (fun i _ h=>h.elim)⟩
  ·refine zbO (u:= .slice (some ⟨g,0,Option.none⟩) 0 cap) (vq0) (Lib.run_unsafeSliceData_row _ _ _ _ _ _ hc0) ?_
   refine⟨.inr (Keep.refl _ _),?_⟩
   refine za4 (u:= .pointer (some ⟨g,0,Option.none⟩)) (z:=vi 0) (vq0) (vr0) (Lib.run_unsafeString_none (P:=Tryz.prog) _ _ _ _ _) ?_
   refine⟨.inr (Keep.refl _ _),?_⟩
   refine hK _ _ ?_;clear hK hgd;clear K;try clear gd
   repeat refine c_r ?_
   refine zaf (.inr rfl) Tryz.ntmps47 rfl (zac (vr0) zae) ?_
   exact⟨rfl,hx0.mono (fun i _ h=>h.elim)⟩
 simp only[List.length_map,Nat.mul_one]at hn hx hb hcs
 have hlen0:0<bs.length:=List.length_pos_iff.2 h0
 refine enter Tryz.func47 Tryz.ntmps47 rfl rfl ?_
 repeat refine c_r ?_
 refine rg0 ?_
 repeat refine c_r ?_
 have hbg:b≠g:=fun he=>by
  subst he
  rw[hb]at hg
  injection hg with hg
  injection hg with _ h2
  revert h2;decide
 have hc0:cap≠0:=by omega
 refine zaS (fun _=>false) [(0,true),(1,true),(2,true),(3,true),(5,true),(6,true),(7,true),(8,true),(9,true),(4,false),(10,false),(11,true)] ((fun i=>i=g)) mixed (by kernel_rfl) ?_;intro gd K x hgd hx hxe hK;have hx0:=zaP hxe;clear hxe
 have c1:zad x (some ⟨b,1,Option.none⟩)=some (.slice (some ⟨g,0,Option.none⟩) bs.length cap):=zaa (Ext.at hx0 hb) rfl
 have hgx:=Ext.at hx0 hg
 simp (disch:=first|omega|assumption|rfl) only[go_sem,c1,Nat.zero_add]
 refine⟨fun a ha hb=>(by cases ha;exact hbg hb),fun a ha hb=>(by cases ha;exact hbg hb),?_⟩
 refine zbO (u:= .slice (some ⟨g,0,Option.none⟩) bs.length cap) (vq0) (Lib.run_unsafeSliceData_row _ _ _ _ _ _ hc0) ?_
 refine⟨.inr (Keep.refl _ _),?_⟩
 refine za4 (u:= .pointer (some ⟨g,0,Option.none⟩)) (z:=vi bs.length) (vq0) (vq0) (Lib.run_unsafeString_row (P:=Tryz.prog) _ _ _ _ 5 (by rfl) (by rfl) g (cap*1) (by simp[World.shape?,hgx,hcs]) bs h0 (by omega) (by omega) ?_) ?_
 ·intro j y hj
  obtain⟨hj1,hj2⟩:=List.getElem?_eq_some_iff.1 hj
  have hcell:=hown.row
  obtain⟨a,c,e,hc,hgt⟩:=hcell.ext hx0
  injection e with e1 e2 e3
  have h2:=hgt j (by simpa using hj1)
  rw[←e1,List.getElem_map,hj2]at h2
  exact h2
 have hfk:Keep (fun i=>i=g) x (x.freeze ⟨g,0,Option.none⟩ bs.length):=zeb x ⟨g,0,Option.none⟩ bs.length
 refine⟨.inr hfk,?_⟩
 refine hK _ _ ?_;clear hK hgd;clear K;try clear gd
 repeat refine c_r ?_
 refine zaf (.inr rfl) Tryz.ntmps47 rfl (zac (vr0) zae) ?_
 exact⟨rfl,(hx0.mono (fun i _ h=>h.elim)).trans (hfk.mono (fun i _ h=>h▸hgB))⟩
end Go.Proofs.YtihbdhjibplldaaGreatDoor
namespace Go.Proofs
open Go.Shelf
def Tryz.lays145_ren:Go.Shelf.Ren:=⟨fun|145=>100|220=>119|219=>136|217=>92|225=>161|224=>162|267=>163|266=>115|314=>193|n=>n,fun|9=>9|4=>4|59=>165|3=>3|5=>5|46=>159|146=>258|51=>29|n=>n,fun|1=>1|n=>n⟩
theorem Tryz.lays145:Go.Proofs.Lays.n145 Tryz.prog Tryz.lays145_ren:={
 mixed:=by kernel_rfl
 f145:=Tryz.func100.trans (congrArg some (by kernel_rfl))
 f217:=Tryz.func92.trans (congrArg some (by kernel_rfl))
 f219:=Tryz.func136.trans (congrArg some (by kernel_rfl))
 f220:=Tryz.func119.trans (congrArg some (by kernel_rfl))
 f224:=Tryz.func162.trans (congrArg some (by kernel_rfl))
 f225:=Tryz.func161.trans (congrArg some (by kernel_rfl))
 f266:=Tryz.func115.trans (congrArg some (by kernel_rfl))
 f267:=Tryz.func163.trans (congrArg some (by kernel_rfl))
 f314:=Tryz.func193.trans (congrArg some (by kernel_rfl))
 t3:=Tryz.underlying3
 a3:=Tryz.isAgg3
 z3:=Tryz.sizeOf3
 v3:=Tryz.zeroValue3
 t4:=Tryz.underlying4
 a4:=Tryz.isAgg4
 z4:=Tryz.sizeOf4
 v4:=Tryz.zeroValue4
 t5:=Tryz.underlying5
 a5:=Tryz.isAgg5
 z5:=Tryz.sizeOf5
 v5:=Tryz.zeroValue5
 t9:=Tryz.underlying9
 a9:=Tryz.isAgg9
 z9:=Tryz.sizeOf9
 v9:=Tryz.zeroValue9
 t46:=Tryz.underlying159
 a46:=Tryz.isAgg159
 z46:=Tryz.sizeOf159
 v46:=Tryz.zeroValue159
 t51:=Tryz.underlying29
 a51:=Tryz.isAgg29
 z51:=Tryz.sizeOf29
 v51:=Tryz.zeroValue29
 t59:=Tryz.underlying165
 a59:=Tryz.isAgg165
 z59:=Tryz.sizeOf165
 v59:=Tryz.zeroValue165
 t146:=Tryz.underlying258
 a146:=Tryz.isAgg258
 z146:=Tryz.sizeOf258
 v146:=Tryz.zeroValue258
 g1:=by kernel_rfl}
def Tryz.lays160_ren:Go.Shelf.Ren:=⟨fun|160=>130|232=>149|231=>148|227=>150|234=>152|233=>151|236=>154|235=>153|228=>176|271=>179|151=>178|197=>177|120=>203|152=>202|260=>201|137=>67|119=>226|224=>162|225=>161|217=>92|266=>115|n=>n,fun|9=>9|4=>4|3=>3|5=>5|117=>221|116=>220|0=>0|124=>224|21=>21|105=>244|46=>159|119=>287|139=>290|138=>289|n=>n,fun|3=>4|4=>5|n=>n⟩
theorem Tryz.lays160:Go.Proofs.Lays.n160 Tryz.prog Tryz.lays160_ren:={
 mixed:=by kernel_rfl
 f119:=Tryz.func226.trans (congrArg some (by kernel_rfl))
 f120:=Tryz.func203.trans (congrArg some (by kernel_rfl))
 f137:=Tryz.func67.trans (congrArg some (by kernel_rfl))
 f151:=Tryz.func178.trans (congrArg some (by kernel_rfl))
 f152:=Tryz.func202.trans (congrArg some (by kernel_rfl))
 f160:=Tryz.func130.trans (congrArg some (by kernel_rfl))
 f197:=Tryz.func177.trans (congrArg some (by kernel_rfl))
 f217:=Tryz.func92.trans (congrArg some (by kernel_rfl))
 f224:=Tryz.func162.trans (congrArg some (by kernel_rfl))
 f225:=Tryz.func161.trans (congrArg some (by kernel_rfl))
 f227:=Tryz.func150.trans (congrArg some (by kernel_rfl))
 f228:=Tryz.func176.trans (congrArg some (by kernel_rfl))
 f231:=Tryz.func148.trans (congrArg some (by kernel_rfl))
 f232:=Tryz.func149.trans (congrArg some (by kernel_rfl))
 f233:=Tryz.func151.trans (congrArg some (by kernel_rfl))
 f234:=Tryz.func152.trans (congrArg some (by kernel_rfl))
 f235:=Tryz.func153.trans (congrArg some (by kernel_rfl))
 f236:=Tryz.func154.trans (congrArg some (by kernel_rfl))
 f260:=Tryz.func201.trans (congrArg some (by kernel_rfl))
 f266:=Tryz.func115.trans (congrArg some (by kernel_rfl))
 f271:=Tryz.func179.trans (congrArg some (by kernel_rfl))
 t0:=Tryz.underlying0
 a0:=Tryz.isAgg0
 z0:=Tryz.sizeOf0
 v0:=Tryz.zeroValue0
 t3:=Tryz.underlying3
 a3:=Tryz.isAgg3
 z3:=Tryz.sizeOf3
 v3:=Tryz.zeroValue3
 t4:=Tryz.underlying4
 a4:=Tryz.isAgg4
 z4:=Tryz.sizeOf4
 v4:=Tryz.zeroValue4
 t5:=Tryz.underlying5
 a5:=Tryz.isAgg5
 z5:=Tryz.sizeOf5
 v5:=Tryz.zeroValue5
 t9:=Tryz.underlying9
 a9:=Tryz.isAgg9
 z9:=Tryz.sizeOf9
 v9:=Tryz.zeroValue9
 t21:=Tryz.underlying21
 a21:=Tryz.isAgg21
 z21:=Tryz.sizeOf21
 v21:=Tryz.zeroValue21
 t46:=Tryz.underlying159
 a46:=Tryz.isAgg159
 z46:=Tryz.sizeOf159
 v46:=Tryz.zeroValue159
 t105:=Tryz.underlying244
 a105:=Tryz.isAgg244
 z105:=Tryz.sizeOf244
 v105:=Tryz.zeroValue244
 t116:=Tryz.underlying220
 a116:=Tryz.isAgg220
 z116:=Tryz.sizeOf220
 t117:=Tryz.underlying221
 a117:=Tryz.isAgg221
 z117:=Tryz.sizeOf221
 v117:=Tryz.zeroValue221
 t119:=Tryz.underlying287
 a119:=Tryz.isAgg287
 z119:=Tryz.sizeOf287
 t124:=Tryz.underlying224
 a124:=Tryz.isAgg224
 z124:=Tryz.sizeOf224
 v124:=Tryz.zeroValue224
 t138:=Tryz.underlying289
 a138:=Tryz.isAgg289
 z138:=Tryz.sizeOf289
 v138:=Tryz.zeroValue289
 t139:=Tryz.underlying290
 a139:=Tryz.isAgg290
 z139:=Tryz.sizeOf290
 v139:=Tryz.zeroValue290
 g3:=by kernel_rfl
 g4:=by kernel_rfl}
def Tryz.lays99_ren:Go.Shelf.Ren:=⟨fun|99=>84|206=>106|n=>n,fun|9=>9|4=>4|3=>3|n=>n,fun|n=>n⟩
theorem Tryz.lays99:Go.Proofs.Lays.n99 Tryz.prog Tryz.lays99_ren:={
 mixed:=by kernel_rfl
 f99:=Tryz.func84.trans (congrArg some (by kernel_rfl))
 f206:=Tryz.func106.trans (congrArg some (by kernel_rfl))
 t3:=Tryz.underlying3
 a3:=Tryz.isAgg3
 z3:=Tryz.sizeOf3
 v3:=Tryz.zeroValue3
 t4:=Tryz.underlying4
 a4:=Tryz.isAgg4
 z4:=Tryz.sizeOf4
 v4:=Tryz.zeroValue4
 t9:=Tryz.underlying9
 a9:=Tryz.isAgg9
 z9:=Tryz.sizeOf9
 v9:=Tryz.zeroValue9}
def Tryz.lays103_ren:Go.Shelf.Ren:=⟨fun|103=>158|210=>182|206=>106|n=>n,fun|9=>9|4=>4|24=>64|3=>3|n=>n,fun|n=>n⟩
theorem Tryz.lays103:Go.Proofs.Lays.n103 Tryz.prog Tryz.lays103_ren:={
 mixed:=by kernel_rfl
 f103:=Tryz.func158.trans (congrArg some (by kernel_rfl))
 f206:=Tryz.func106.trans (congrArg some (by kernel_rfl))
 f210:=Tryz.func182.trans (congrArg some (by kernel_rfl))
 t3:=Tryz.underlying3
 a3:=Tryz.isAgg3
 z3:=Tryz.sizeOf3
 v3:=Tryz.zeroValue3
 t4:=Tryz.underlying4
 a4:=Tryz.isAgg4
 z4:=Tryz.sizeOf4
 v4:=Tryz.zeroValue4
 t9:=Tryz.underlying9
 a9:=Tryz.isAgg9
 z9:=Tryz.sizeOf9
 v9:=Tryz.zeroValue9
 t24:=Tryz.underlying64
 a24:=Tryz.isAgg64
 z24:=Tryz.sizeOf64
 v24:=Tryz.zeroValue64}
def Tryz.lays146_ren:Go.Shelf.Ren:=⟨fun|146=>170|221=>196|268=>217|138=>218|143=>219|195=>231|197=>177|218=>232|219=>136|260=>201|217=>92|225=>161|224=>162|267=>163|266=>115|314=>193|n=>n,fun|9=>9|31=>23|3=>3|4=>4|0=>0|105=>244|21=>21|5=>5|46=>159|119=>287|139=>290|138=>289|146=>258|51=>29|n=>n,fun|1=>1|3=>4|4=>5|n=>n⟩
theorem Tryz.lays146:Go.Proofs.Lays.n146 Tryz.prog Tryz.lays146_ren:={
 mixed:=by kernel_rfl
 f138:=Tryz.func218.trans (congrArg some (by kernel_rfl))
 f143:=Tryz.func219.trans (congrArg some (by kernel_rfl))
 f146:=Tryz.func170.trans (congrArg some (by kernel_rfl))
 f195:=Tryz.func231.trans (congrArg some (by kernel_rfl))
 f197:=Tryz.func177.trans (congrArg some (by kernel_rfl))
 f217:=Tryz.func92.trans (congrArg some (by kernel_rfl))
 f218:=Tryz.func232.trans (congrArg some (by kernel_rfl))
 f219:=Tryz.func136.trans (congrArg some (by kernel_rfl))
 f221:=Tryz.func196.trans (congrArg some (by kernel_rfl))
 f224:=Tryz.func162.trans (congrArg some (by kernel_rfl))
 f225:=Tryz.func161.trans (congrArg some (by kernel_rfl))
 f260:=Tryz.func201.trans (congrArg some (by kernel_rfl))
 f266:=Tryz.func115.trans (congrArg some (by kernel_rfl))
 f267:=Tryz.func163.trans (congrArg some (by kernel_rfl))
 f268:=Tryz.func217.trans (congrArg some (by kernel_rfl))
 f314:=Tryz.func193.trans (congrArg some (by kernel_rfl))
 t0:=Tryz.underlying0
 a0:=Tryz.isAgg0
 z0:=Tryz.sizeOf0
 v0:=Tryz.zeroValue0
 t3:=Tryz.underlying3
 a3:=Tryz.isAgg3
 z3:=Tryz.sizeOf3
 v3:=Tryz.zeroValue3
 t4:=Tryz.underlying4
 a4:=Tryz.isAgg4
 z4:=Tryz.sizeOf4
 v4:=Tryz.zeroValue4
 t5:=Tryz.underlying5
 a5:=Tryz.isAgg5
 z5:=Tryz.sizeOf5
 v5:=Tryz.zeroValue5
 t9:=Tryz.underlying9
 a9:=Tryz.isAgg9
 z9:=Tryz.sizeOf9
 v9:=Tryz.zeroValue9
 t21:=Tryz.underlying21
 a21:=Tryz.isAgg21
 z21:=Tryz.sizeOf21
 v21:=Tryz.zeroValue21
 t31:=Tryz.underlying23
 a31:=Tryz.isAgg23
 z31:=Tryz.sizeOf23
 v31:=Tryz.zeroValue23
 t46:=Tryz.underlying159
 a46:=Tryz.isAgg159
 z46:=Tryz.sizeOf159
 v46:=Tryz.zeroValue159
 t51:=Tryz.underlying29
 a51:=Tryz.isAgg29
 z51:=Tryz.sizeOf29
 v51:=Tryz.zeroValue29
 t105:=Tryz.underlying244
 a105:=Tryz.isAgg244
 z105:=Tryz.sizeOf244
 v105:=Tryz.zeroValue244
 t119:=Tryz.underlying287
 a119:=Tryz.isAgg287
 z119:=Tryz.sizeOf287
 t138:=Tryz.underlying289
 a138:=Tryz.isAgg289
 z138:=Tryz.sizeOf289
 v138:=Tryz.zeroValue289
 t139:=Tryz.underlying290
 a139:=Tryz.isAgg290
 z139:=Tryz.sizeOf290
 v139:=Tryz.zeroValue290
 t146:=Tryz.underlying258
 a146:=Tryz.isAgg258
 z146:=Tryz.sizeOf258
 v146:=Tryz.zeroValue258
 g1:=by kernel_rfl
 g3:=by kernel_rfl
 g4:=by kernel_rfl}
def Tryz.lays212_ren:Go.Shelf.Ren:=⟨fun|212=>199|263=>224|264=>225|n=>n,fun|46=>159|51=>29|146=>258|53=>71|148=>285|n=>n,fun|n=>n⟩
theorem Tryz.lays212:Go.Proofs.Lays.n212 Tryz.prog Tryz.lays212_ren:={
 mixed:=by kernel_rfl
 f212:=Tryz.func199.trans (congrArg some (by kernel_rfl))
 f263:=Tryz.func224.trans (congrArg some (by kernel_rfl))
 f264:=Tryz.func225.trans (congrArg some (by kernel_rfl))
 t46:=Tryz.underlying159
 a46:=Tryz.isAgg159
 z46:=Tryz.sizeOf159
 v46:=Tryz.zeroValue159
 t51:=Tryz.underlying29
 a51:=Tryz.isAgg29
 z51:=Tryz.sizeOf29
 v51:=Tryz.zeroValue29
 t53:=Tryz.underlying71
 a53:=Tryz.isAgg71
 z53:=Tryz.sizeOf71
 v53:=Tryz.zeroValue71
 t146:=Tryz.underlying258
 a146:=Tryz.isAgg258
 z146:=Tryz.sizeOf258
 v146:=Tryz.zeroValue258
 t148:=Tryz.underlying285
 a148:=Tryz.isAgg285
 z148:=Tryz.sizeOf285
 v148:=Tryz.zeroValue285}
def Tryz.laysPu14_ren:Go.Shelf.Ren:=⟨fun|14=>155|16=>180|17=>181|19=>204|20=>205|21=>206|22=>207|23=>208|24=>209|25=>227|27=>41|26=>228|28=>61|29=>88|30=>69|31=>70|32=>71|33=>72|35=>94|34=>93|36=>95|37=>96|38=>97|39=>116|40=>117|n=>n,fun|9=>9|3=>3|22=>71|24=>100|25=>225|4=>4|34=>271|5=>5|36=>159|37=>32|0=>0|39=>274|21=>21|44=>293|47=>119|50=>302|48=>300|2=>2|52=>126|55=>129|59=>157|60=>29|20=>20|61=>158|65=>204|66=>205|67=>66|n=>n,fun|0=>6|1=>7|2=>0|3=>2|4=>3|n=>n⟩
theorem Tryz.laysPu14:Go.Proofs.LaysPu.n14 Tryz.prog Tryz.laysPu14_ren:={
 mixed:=by kernel_rfl
 f14:=Tryz.func155.trans (congrArg some (by kernel_rfl))
 f16:=Tryz.func180.trans (congrArg some (by kernel_rfl))
 f17:=Tryz.func181.trans (congrArg some (by kernel_rfl))
 f19:=Tryz.func204.trans (congrArg some (by kernel_rfl))
 f20:=Tryz.func205.trans (congrArg some (by kernel_rfl))
 f21:=Tryz.func206.trans (congrArg some (by kernel_rfl))
 f22:=Tryz.func207.trans (congrArg some (by kernel_rfl))
 f23:=Tryz.func208.trans (congrArg some (by kernel_rfl))
 f24:=Tryz.func209.trans (congrArg some (by kernel_rfl))
 f25:=Tryz.func227.trans (congrArg some (by kernel_rfl))
 f26:=Tryz.func228.trans (congrArg some (by kernel_rfl))
 f27:=Tryz.func41.trans (congrArg some (by kernel_rfl))
 f28:=Tryz.func61.trans (congrArg some (by kernel_rfl))
 f29:=Tryz.func88.trans (congrArg some (by kernel_rfl))
 f30:=Tryz.func69.trans (congrArg some (by kernel_rfl))
 f31:=Tryz.func70.trans (congrArg some (by kernel_rfl))
 f32:=Tryz.func71.trans (congrArg some (by kernel_rfl))
 f33:=Tryz.func72.trans (congrArg some (by kernel_rfl))
 f34:=Tryz.func93.trans (congrArg some (by kernel_rfl))
 f35:=Tryz.func94.trans (congrArg some (by kernel_rfl))
 f36:=Tryz.func95.trans (congrArg some (by kernel_rfl))
 f37:=Tryz.func96.trans (congrArg some (by kernel_rfl))
 f38:=Tryz.func97.trans (congrArg some (by kernel_rfl))
 f39:=Tryz.func116.trans (congrArg some (by kernel_rfl))
 f40:=Tryz.func117.trans (congrArg some (by kernel_rfl))
 t0:=Tryz.underlying0
 a0:=Tryz.isAgg0
 z0:=Tryz.sizeOf0
 v0:=Tryz.zeroValue0
 i0:=by kernel_rfl
 t2:=Tryz.underlying2
 a2:=Tryz.isAgg2
 z2:=Tryz.sizeOf2
 v2:=Tryz.zeroValue2
 i2:=by kernel_rfl
 t3:=Tryz.underlying3
 a3:=Tryz.isAgg3
 z3:=Tryz.sizeOf3
 v3:=Tryz.zeroValue3
 i3:=by kernel_rfl
 t4:=Tryz.underlying4
 a4:=Tryz.isAgg4
 z4:=Tryz.sizeOf4
 v4:=Tryz.zeroValue4
 i4:=by kernel_rfl
 t5:=Tryz.underlying5
 a5:=Tryz.isAgg5
 z5:=Tryz.sizeOf5
 v5:=Tryz.zeroValue5
 i5:=by kernel_rfl
 t9:=Tryz.underlying9
 a9:=Tryz.isAgg9
 z9:=Tryz.sizeOf9
 v9:=Tryz.zeroValue9
 i9:=by kernel_rfl
 t20:=Tryz.underlying20
 a20:=Tryz.isAgg20
 z20:=Tryz.sizeOf20
 v20:=Tryz.zeroValue20
 i20:=by kernel_rfl
 t21:=Tryz.underlying21
 a21:=Tryz.isAgg21
 z21:=Tryz.sizeOf21
 v21:=Tryz.zeroValue21
 i21:=by kernel_rfl
 t22:=Tryz.underlying71
 a22:=Tryz.isAgg71
 z22:=Tryz.sizeOf71
 v22:=Tryz.zeroValue71
 i22:=by kernel_rfl
 t24:=Tryz.underlying100
 a24:=Tryz.isAgg100
 z24:=Tryz.sizeOf100
 v24:=Tryz.zeroValue100
 i24:=by kernel_rfl
 t25:=Tryz.underlying225
 a25:=Tryz.isAgg225
 z25:=Tryz.sizeOf225
 v25:=Tryz.zeroValue225
 i25:=by kernel_rfl
 t34:=Tryz.underlying271
 a34:=Tryz.isAgg271
 z34:=Tryz.sizeOf271
 v34:=Tryz.zeroValue271
 i34:=by kernel_rfl
 c34:=by kernel_rfl
 t36:=Tryz.underlying159
 a36:=Tryz.isAgg159
 z36:=Tryz.sizeOf159
 v36:=Tryz.zeroValue159
 i36:=by kernel_rfl
 t37:=Tryz.underlying32
 a37:=Tryz.isAgg32
 z37:=Tryz.sizeOf32
 v37:=Tryz.zeroValue32
 i37:=by kernel_rfl
 t39:=Tryz.underlying274
 a39:=Tryz.isAgg274
 z39:=Tryz.sizeOf274
 v39:=Tryz.zeroValue274
 i39:=by kernel_rfl
 t44:=Tryz.underlying293
 a44:=Tryz.isAgg293
 z44:=Tryz.sizeOf293
 v44:=Tryz.zeroValue293
 i44:=by kernel_rfl
 t47:=Tryz.underlying119
 a47:=Tryz.isAgg119
 z47:=Tryz.sizeOf119
 v47:=Tryz.zeroValue119
 i47:=by kernel_rfl
 t48:=Tryz.underlying300
 a48:=Tryz.isAgg300
 z48:=Tryz.sizeOf300
 v48:=Tryz.zeroValue300
 i48:=by kernel_rfl
 t50:=Tryz.underlying302
 a50:=Tryz.isAgg302
 z50:=Tryz.sizeOf302
 v50:=Tryz.zeroValue302
 i50:=by kernel_rfl
 t52:=Tryz.underlying126
 a52:=Tryz.isAgg126
 z52:=Tryz.sizeOf126
 v52:=Tryz.zeroValue126
 i52:=by kernel_rfl
 t55:=Tryz.underlying129
 a55:=Tryz.isAgg129
 z55:=Tryz.sizeOf129
 v55:=Tryz.zeroValue129
 i55:=by kernel_rfl
 t59:=Tryz.underlying157
 a59:=Tryz.isAgg157
 z59:=Tryz.sizeOf157
 v59:=Tryz.zeroValue157
 i59:=by kernel_rfl
 t60:=Tryz.underlying29
 a60:=Tryz.isAgg29
 z60:=Tryz.sizeOf29
 v60:=Tryz.zeroValue29
 i60:=by kernel_rfl
 t61:=Tryz.underlying158
 a61:=Tryz.isAgg158
 z61:=Tryz.sizeOf158
 t65:=Tryz.underlying204
 a65:=Tryz.isAgg204
 z65:=Tryz.sizeOf204
 v65:=Tryz.zeroValue204
 i65:=by kernel_rfl
 t66:=Tryz.underlying205
 a66:=Tryz.isAgg205
 z66:=Tryz.sizeOf205
 v66:=Tryz.zeroValue205
 i66:=by kernel_rfl
 t67:=Tryz.underlying66
 a67:=Tryz.isAgg66
 z67:=Tryz.sizeOf66
 v67:=Tryz.zeroValue66
 i67:=by kernel_rfl
 g0:=by kernel_rfl
 m0:=by kernel_rfl
 g1:=by kernel_rfl
 m1:=by kernel_rfl
 g2:=by kernel_rfl
 m2:=by kernel_rfl
 g3:=by kernel_rfl
 m3:=by kernel_rfl
 g4:=by kernel_rfl
 m4:=by kernel_rfl}
def Tryz.laysM171_ren:Go.Shelf.Ren:=⟨fun|171=>41|243=>61|246=>88|283=>69|284=>70|285=>71|286=>72|129=>94|317=>93|318=>95|319=>96|320=>97|337=>116|338=>117|n=>n,fun|3=>3|9=>9|2=>2|4=>4|171=>126|0=>0|53=>71|37=>32|5=>5|173=>129|212=>157|51=>29|20=>20|213=>158|46=>159|232=>204|233=>205|n=>n,fun|17=>0|18=>2|19=>3|n=>n⟩
theorem Tryz.laysM171:Go.Proofs.LaysM.n171 Tryz.prog Tryz.laysM171_ren:={
 mixed:=by kernel_rfl
 f129:=Tryz.func94.trans (congrArg some (by kernel_rfl))
 f171:=Tryz.func41.trans (congrArg some (by kernel_rfl))
 f243:=Tryz.func61.trans (congrArg some (by kernel_rfl))
 f246:=Tryz.func88.trans (congrArg some (by kernel_rfl))
 f283:=Tryz.func69.trans (congrArg some (by kernel_rfl))
 f284:=Tryz.func70.trans (congrArg some (by kernel_rfl))
 f285:=Tryz.func71.trans (congrArg some (by kernel_rfl))
 f286:=Tryz.func72.trans (congrArg some (by kernel_rfl))
 f317:=Tryz.func93.trans (congrArg some (by kernel_rfl))
 f318:=Tryz.func95.trans (congrArg some (by kernel_rfl))
 f319:=Tryz.func96.trans (congrArg some (by kernel_rfl))
 f320:=Tryz.func97.trans (congrArg some (by kernel_rfl))
 f337:=Tryz.func116.trans (congrArg some (by kernel_rfl))
 f338:=Tryz.func117.trans (congrArg some (by kernel_rfl))
 t0:=Tryz.underlying0
 a0:=Tryz.isAgg0
 z0:=Tryz.sizeOf0
 v0:=Tryz.zeroValue0
 t2:=Tryz.underlying2
 a2:=Tryz.isAgg2
 z2:=Tryz.sizeOf2
 v2:=Tryz.zeroValue2
 t3:=Tryz.underlying3
 a3:=Tryz.isAgg3
 z3:=Tryz.sizeOf3
 v3:=Tryz.zeroValue3
 t4:=Tryz.underlying4
 a4:=Tryz.isAgg4
 z4:=Tryz.sizeOf4
 v4:=Tryz.zeroValue4
 t5:=Tryz.underlying5
 a5:=Tryz.isAgg5
 z5:=Tryz.sizeOf5
 v5:=Tryz.zeroValue5
 t9:=Tryz.underlying9
 a9:=Tryz.isAgg9
 z9:=Tryz.sizeOf9
 v9:=Tryz.zeroValue9
 t20:=Tryz.underlying20
 a20:=Tryz.isAgg20
 z20:=Tryz.sizeOf20
 v20:=Tryz.zeroValue20
 t37:=Tryz.underlying32
 a37:=Tryz.isAgg32
 z37:=Tryz.sizeOf32
 v37:=Tryz.zeroValue32
 t46:=Tryz.underlying159
 a46:=Tryz.isAgg159
 z46:=Tryz.sizeOf159
 v46:=Tryz.zeroValue159
 t51:=Tryz.underlying29
 a51:=Tryz.isAgg29
 z51:=Tryz.sizeOf29
 v51:=Tryz.zeroValue29
 t53:=Tryz.underlying71
 a53:=Tryz.isAgg71
 z53:=Tryz.sizeOf71
 v53:=Tryz.zeroValue71
 t171:=Tryz.underlying126
 a171:=Tryz.isAgg126
 z171:=Tryz.sizeOf126
 v171:=Tryz.zeroValue126
 t173:=Tryz.underlying129
 a173:=Tryz.isAgg129
 z173:=Tryz.sizeOf129
 v173:=Tryz.zeroValue129
 t212:=Tryz.underlying157
 a212:=Tryz.isAgg157
 z212:=Tryz.sizeOf157
 v212:=Tryz.zeroValue157
 t213:=Tryz.underlying158
 a213:=Tryz.isAgg158
 z213:=Tryz.sizeOf158
 t232:=Tryz.underlying204
 a232:=Tryz.isAgg204
 z232:=Tryz.sizeOf204
 v232:=Tryz.zeroValue204
 t233:=Tryz.underlying205
 a233:=Tryz.isAgg205
 z233:=Tryz.sizeOf205
 v233:=Tryz.zeroValue205
 g17:=by kernel_rfl
 g18:=by kernel_rfl
 g19:=by kernel_rfl
 i0:=by kernel_rfl
 i2:=by kernel_rfl
 i3:=by kernel_rfl
 i4:=by kernel_rfl
 i5:=by kernel_rfl
 i9:=by kernel_rfl
 i20:=by kernel_rfl
 i37:=by kernel_rfl
 i46:=by kernel_rfl
 i51:=by kernel_rfl
 i53:=by kernel_rfl
 i171:=by kernel_rfl
 i173:=by kernel_rfl
 i212:=by kernel_rfl
 i232:=by kernel_rfl
 i233:=by kernel_rfl
 m17:=by kernel_rfl
 m18:=by kernel_rfl
 m19:=by kernel_rfl}
end Go.Proofs
namespace Go.Proofs.YtihbdhjibplldaaGreatDoor
open Go
set_option maxRecDepth 10000
def digB(c:UInt8):Bool:=decide (48≤c.toNat) && decide (c.toNat≤57)
def valD(l:Lab):Nat:=l.foldl (fun n c=>10*n+(c.toNat - 48)) 0
def zf8(l:Lab):Bool:=!l.isEmpty && (l.all digB && !(decide (1<l.length) && decide (l.head? =some 48)))
theorem valD_app(l:Lab)(c:UInt8):valD (l++ [c])=10*valD l+(c.toNat - 48):=by
 unfold valD
 rw[List.foldl_append]
 rfl
def cutB(c:UInt8):Lab→Lab×Lab×Bool
 | []=>([],[],false)
 |b::l=>if b=c then([],l,true) else(b::(cutB c l).1,(cutB c l).2.1,(cutB c l).2.2)
theorem zhS(b c:UInt8)(l:Lab):Lib.index (b::l) [c]=if b=c then 0 else if Lib.index l [c]= -1 then -1 else Lib.index l [c]+1:=by
 rw[Lib.index]
 have e:[c].isPrefixOf (b::l)=decide (b=c):=by
  simp only[List.isPrefixOf,Bool.and_true]
  by_cases h:b=c
  ·subst h;simp
  ·rw[decide_eq_false h];simpa using fun h'=>h h'.symm
 rw[e]
 by_cases h:b=c
 ·simp[h]
 ·simp[h]
theorem zjE(c:UInt8):∀s:Lab,Lib.cut s [c]=cutB c s
 | []=>by unfold Lib.cut cutB;simp[Lib.index]
 |b::l=>by
  have ih:=zjE c l
  have hg:=Lib.index_ge l [c]
  unfold Lib.cut at ih ⊢
  unfold cutB
  rw[zhS]
  by_cases h:b=c
  ·rw[if_pos h,if_pos h];simp
  ·rw[if_neg h,if_neg h]
   by_cases hi:Lib.index l [c]= -1
   ·rw[if_pos hi]
    rw[hi]at ih
    rw[←ih]
    simp
   ·rw[if_neg hi]
    have h0:0≤Lib.index l [c]:=by omega
    rw[if_pos h0]at ih
    rw[if_pos (by omega),←ih]
    obtain⟨k,hk⟩:=Int.eq_ofNat_of_zero_le h0
    rw[hk]
    have e:((k:Int)+1).toNat=k+1:=by omega
    rw[e,Int.toNat_natCast]
    simp[Nat.add_right_comm]
theorem zdR(c:UInt8):∀s:Lab,(cutB c s).1.length≤s.length∧(cutB c s).2.1.length≤s.length
 | []=>by simp[cutB]
 |b::l=>by
  have ih:=zdR c l
  unfold cutB
  split
  ·simp
  ·simp only[List.length_cons];omega
theorem zfq{k:Nat}(h:k<10):(UInt8.ofNat (48+k)).toNat=48+k:=by
 rw[UInt8.toNat_ofNat']
 show(48+k) % 256=_
 omega
theorem valD_dec(u:Nat):valD (Lib.decDigits u)=u:=by
 induction u using Nat.strongRecOn with
 |_ u ih=>
  rw[Lib.decDigits]
  by_cases h:u<10
  ·rw[dif_pos h]
   show 10*0+((UInt8.ofNat (48+u)).toNat - 48)=u
   rw[zfq h];omega
  ·rw[dif_neg h,valD_app,ih (u / 10) (by omega),zfq (by omega)]
   omega
theorem zbC(u:Nat):∀c∈Lib.decDigits u,digB c=true:=by
 induction u using Nat.strongRecOn with
 |_ u ih=>
  have one:∀k,k<10→digB (UInt8.ofNat (48+k))=true:=fun k hk=>by
   unfold digB
   rw[zfq hk,decide_eq_true (by omega),decide_eq_true (by omega)];rfl
  intro c hc
  rw[Lib.decDigits]at hc
  by_cases h:u<10
  ·rw[dif_pos h]at hc
   rw[List.mem_singleton.1 hc]
   exact one u h
  ·rw[dif_neg h]at hc
   rcases List.mem_append.1 hc with hc|hc
   ·exact ih (u / 10) (by omega) c hc
   ·rw[List.mem_singleton.1 hc]
    exact one _ (by omega)
theorem zhx(u:Nat):Lib.decDigits u≠ []:=by
 rw[Lib.decDigits]
 split<;>simp
theorem dec_head(u:Nat)(hu:1≤u):(Lib.decDigits u).head?≠some 48:=by
 induction u using Nat.strongRecOn with
 |_ u ih=>
  rw[Lib.decDigits]
  by_cases h:u<10
  ·rw[dif_pos h]
   intro e
   have e2:UInt8.ofNat (48+u)=48:=by simpa using e
   have e3:=congrArg UInt8.toNat e2
   rw[zfq h]at e3
   have:(48:UInt8).toNat=48:=rfl
   omega
  ·rw[dif_neg h]
   have h1:=ih (u / 10) (by omega) (by omega)
   have h2:=zhx (u / 10)
   cases hd:Lib.decDigits (u / 10) with
   |nil=>exact absurd hd h2
   |cons a l=>rw[hd]at h1;simpa using h1
theorem zjp(u:Nat):zf8 (Lib.decDigits u)=true:=by
 unfold zf8
 have h1:(Lib.decDigits u).isEmpty=false:=by
  cases h:Lib.decDigits u with
  |nil=>exact absurd h (zhx u)
  |cons=>rfl
 have h2:(Lib.decDigits u).all digB=true:=List.all_eq_true.2 (zbC u)
 rw[h1,h2]
 by_cases hu:1≤u
 ·rw[decide_eq_false (dec_head u hu)];simp
 ·have:u=0:=by omega
  subst this
  rw[Lib.decDigits_one (by decide)];rfl
theorem zgS(c:UInt8)(b:Lab):∀a:Lab,c∉a→cutB c (a++c::b)=(a,b,true)
 | [],_=>by simp[cutB]
 |x::a,h=>by
  have h1:x≠c:=fun e=>h (e▸List.mem_cons_self ..)
  have ih:=zgS c b a fun h'=>h (List.mem_cons_of_mem _ h')
  rw[List.cons_append,cutB,if_neg h1,ih]
def decP(most:Nat)(s:Lab):Nat×Int:=if zf8 s then(if valD s≤most then(valD s,0) else(0,7)) else(0,2)
theorem zbP{most u:Nat}(h:u≤most):decP most (Lib.decDigits u)=(u,0):=by
 unfold decP
 rw[zjp,valD_dec,if_pos rfl,if_pos h]
def zar:Nat:=2147483647
def zbc(s:Lab):(Nat×Nat×Nat)×Int:=
 let x:=cutB 47 s
 let y:=cutB 45 x.1
 let a:=decP zar y.1
 let b:=decP zar y.2.1
 let d:=decP zar (if x.2.2 then x.2.1 else [49])
 if y.2.2=false then((0,0,0),2)
 else if a.2=2∨b.2=2∨d.2=2 then((0,0,0),2)
 else if a.2=7∨b.2=7∨d.2=7 then((0,0,0),7)
 else if a.1≤b.1∧1≤d.1 then((a.1,b.1,d.1),0) else((0,0,0),1)
theorem zjD{u:Nat}{c:UInt8}(hc:digB c=false):c∉Lib.decDigits u:=fun h=>by
 have:=zbC u c h
 rw[hc]at this;cases this
theorem zhL{a b d:Nat}(hab:a≤b)(hb:b≤zar)(hd:1≤d)(hdm:d≤zar):
  zbc (Lib.decDigits a++45::(Lib.decDigits b++47::Lib.decDigits d))=((a,b,d),0):=by
 have e1:Lib.decDigits a++45::(Lib.decDigits b++47::Lib.decDigits d)=(Lib.decDigits a++45::Lib.decDigits b)++47::Lib.decDigits d:=by simp
 have h1:(47:UInt8)∉Lib.decDigits a++45::Lib.decDigits b:=fun h=>by
  rcases List.mem_append.1 h with h|h
  ·exact zjD (by decide) h
  ·rcases List.mem_cons.1 h with h|h
   ·cases h
   ·exact zjD (by decide) h
 unfold zbc
 rw[e1,zgS 47 _ _ h1]
 simp only
 rw[zgS 45 _ _ (zjD (by decide))]
 simp only[if_true,zbP (Nat.le_trans hab hb),zbP hb,zbP hdm]
 simp[hab,hd]
def zbV(a b d:Nat):List Int:=(List.range ((b - a) / d+1)).map fun i=>((a+i*d:Nat):Int)
theorem zc6(a b d:Nat):(zbV a b d).length=(b - a) / d+1:=by unfold zbV;simp
theorem zf1{a b d i:Nat}(h:i<(zbV a b d).length):(zbV a b d)[i]=((a+i*d:Nat):Int):=by unfold zbV;simp
theorem zi0{a b d i:Nat}(hd:1≤d)(hi:a+i*d≤b):i≤(b - a) / d:=by
 rw[Nat.le_div_iff_mul_le (by omega)]
 omega
theorem zi1{a b d i:Nat}(hd:1≤d)(hab:a≤b)(hi:i≤(b - a) / d):a+i*d≤b:=by
 rw[Nat.le_div_iff_mul_le (by omega)]at hi
 omega
section
variable {A B C D E F G H I : Prop}
theorem an2(a:A)(b:B):A∧B:=⟨a,b⟩
theorem an3(a:A)(b:B)(c:C):A∧B∧C:=⟨a,b,c⟩
theorem an4(a:A)(b:B)(c:C)(d:D):A∧B∧C∧D:=⟨a,b,c,d⟩
theorem an5(a:A)(b:B)(c:C)(d:D)(e:E):A∧B∧C∧D∧E:=⟨a,b,c,d,e⟩
theorem an6(a:A)(b:B)(c:C)(d:D)(e:E)(f:F):A∧B∧C∧D∧E∧F:=⟨a,b,c,d,e,f⟩
theorem an7(a:A)(b:B)(c:C)(d:D)(e:E)(f:F)(g:G):A∧B∧C∧D∧E∧F∧G:=⟨a,b,c,d,e,f,g⟩
theorem an8(a:A)(b:B)(c:C)(d:D)(e:E)(f:F)(g:G)(h:H):A∧B∧C∧D∧E∧F∧G∧H:=⟨a,b,c,d,e,f,g,h⟩
theorem an9(a:A)(b:B)(c:C)(d:D)(e:E)(f:F)(g:G)(h:H)(i:I):A∧B∧C∧D∧E∧F∧G∧H∧I:=⟨a,b,c,d,e,f,g,h,i⟩
end
def gdOk:List (Nat×Nat)→(Nat→Option Tmp)→Prop
 | [],_=>True
 |p::l,gd=>gd p.1=some p.2∧gdOk l gd
theorem zgK{L:List Oper}:∀{gs:List (Nat×Nat)},(gs.all fun p=>dstL L p.1==some p.2)=true→gdOk gs (dstL L)
 | [],_=>trivial
 |p::l,h=>by
  simp only[List.all_cons,Bool.and_eq_true,beq_iff_eq]at h
  exact⟨h.1,zgK h.2⟩
theorem zgm(b:Bool):zat undef b=false:=nr rfl
def Rest(P:Program)(Q:Post)(ds:List Deferred)(L:List Oper)(F:(Nat→Option Tmp)→(Sto→World→Prop)→Prop):Prop:=
 ∀(gd:Nat→Option Tmp) (K:Sto→World→Prop),gd=dstL L→(∀σ' w',Q .normal σ' ds w'→K σ' w')→F gd K
section
variable {P : Program} {r : Option Nat} {n : Nat} {Q : Post} {σ : Sto} {ds : List Deferred} {w : World} {p : Prop} {L : List Oper} {F : (Nat → Option Tmp) → (Sto → World → Prop) → Prop}
theorem wt{c:Operand}{x y:Code}(h:p)(ht:W P r n x Q σ ds w)(hc:p→ev n σ c= .bool true:=by intro h1;first| (simp only[go_sem,h1];done)| (simp only[go_sem,h1];rfl)):W P r n (.cond c x y) Q σ ds w:=zes (hc h) (fun _=>ht) (fun h=>by cases h)
theorem wf{c:Operand}{x y:Code}(h:p)(ht:W P r n y Q σ ds w)(hc:p→ev n σ c= .bool false:=by intro h1;first| (simp only[go_sem,h1];done)| (simp only[go_sem,h1];rfl)):W P r n (.cond c x y) Q σ ds w:=zes (hc h) (fun h=>by cases h) (fun _=>ht)
theorem ro{id:Nat}{ops:Array Oper}(h:Rest P Q ds ops.toList (fun gd K=>opsV P gd n ops.toList σ w K))(hd:zaY ops=true:=by rfl):W P r n (.region id ops false) Q σ ds w:=zeA hd fun gd K hgd hK=>h gd K hgd hK
theorem rd{f:FuncId}{args:Array Value}{w1:World}{R:Value→World→Prop}{C:(Nat→Option Tmp)→(Sto→World→Prop)→Value→World→Prop}(h:p)(hF:Fn P f args w1 R)(hr:∀v w',R v w'→Rest P Q ds L (fun gd K=>C gd K v w'))
  (hs:p→∀(gd:Nat→Option Tmp) (K:Sto→World→Prop),F gd K=Fn P f args w1 (fun v w'=>C gd K v w'):=by intro h1 gd K;(simp (disch:=first|omega|assumption|rfl) only[go_sem,h1])<;>exact rfl):Rest P Q ds L F:=
 fun gd K hgd hK=>(hs h gd K).mpr (Fn.mono hF fun v w' hR=>hr v w' hR gd K hgd hK)
theorem rc{id:Nat}{ops:Array Oper}{f:FuncId}{args:Array Value}{w1:World}{R:Value→World→Prop}{C:(Nat→Option Tmp)→(Sto→World→Prop)→Value→World→Prop}(h:p)(hF:Fn P f args w1 R)(hr:∀v w',R v w'→Rest P Q ds ops.toList (fun gd K=>C gd K v w'))
  (hs:p→∀(gd:Nat→Option Tmp) (K:Sto→World→Prop),opsV P gd n ops.toList σ w K=Fn P f args w1 (fun v w'=>C gd K v w'):=by intro h1 gd K;(simp (disch:=first|omega|assumption|rfl) only[go_sem,h1])<;>exact rfl)
  (hd:zaY ops=true:=by rfl):W P r n (.region id ops false) Q σ ds w:=ro (rd h hF hr hs) hd
theorem re{σ1:Sto}{w1:World}(h:p)(hq:Q .normal σ1 ds w1)
  (hs:p→∀(gd:Nat→Option Tmp) (K:Sto→World→Prop),F gd K=K σ1 w1:=by intro h1 gd K;(first| (simp (disch:=first|omega|assumption|rfl) only[go_sem,h1])|skip)<;>exact rfl):Rest P Q ds L F:=
 fun gd K _ hK=>(hs h gd K).mpr (hK _ _ hq)
theorem rdg(gs:List (Nat×Nat)){f:FuncId}{args:Array Value}{w1:World}{R:Value→World→Prop}{C:(Nat→Option Tmp)→(Sto→World→Prop)→Value→World→Prop}(h:p)(hF:Fn P f args w1 R)(hr:∀v w',R v w'→Rest P Q ds L (fun gd K=>C gd K v w'))
  (hs:p→∀(gd:Nat→Option Tmp) (K:Sto→World→Prop),gdOk gs gd→F gd K=Fn P f args w1 (fun v w'=>C gd K v w'):=by intro h1 gd K hg;simp only[gdOk]at hg;(simp (disch:=first|omega|assumption|rfl) only[go_sem,zag,zbE,zgm,hg,h1])<;>exact rfl)
  (hg:(gs.all fun p=>dstL L p.1==some p.2)=true:=by exact rfl):Rest P Q ds L F:=
 fun gd K hgd hK=>(hs h gd K (hgd▸zgK hg)).mpr (Fn.mono hF fun v w' hR=>hr v w' hR gd K hgd hK)
theorem rcg(gs:List (Nat×Nat)){id:Nat}{ops:Array Oper}{f:FuncId}{args:Array Value}{w1:World}{R:Value→World→Prop}{C:(Nat→Option Tmp)→(Sto→World→Prop)→Value→World→Prop}(h:p)(hF:Fn P f args w1 R)(hr:∀v w',R v w'→Rest P Q ds ops.toList (fun gd K=>C gd K v w'))
  (hs:p→∀(gd:Nat→Option Tmp) (K:Sto→World→Prop),gdOk gs gd→opsV P gd n ops.toList σ w K=Fn P f args w1 (fun v w'=>C gd K v w'):=by intro h1 gd K hg;simp only[gdOk]at hg;(simp (disch:=first|omega|assumption|rfl) only[go_sem,zag,zbE,zgm,hg,h1])<;>exact rfl)
  (hg:(gs.all fun p=>dstL ops.toList p.1==some p.2)=true:=by exact rfl) (hd:zaY ops=true:=by rfl):W P r n (.region id ops false) Q σ ds w:=ro (rdg gs h hF hr hs hg) hd
theorem reg(gs:List (Nat×Nat)){σ1:Sto}{w1:World}(h:p)(hq:Q .normal σ1 ds w1)
  (hs:p→∀(gd:Nat→Option Tmp) (K:Sto→World→Prop),gdOk gs gd→F gd K=K σ1 w1:=by intro h1 gd K hg;simp only[gdOk]at hg;(first| (simp (disch:=first|omega|assumption|rfl) only[go_sem,zag,zbE,zgm,hg,h1])|skip)<;>exact rfl)
  (hg:(gs.all fun p=>dstL L p.1==some p.2)=true:=by exact rfl):Rest P Q ds L F:=
 fun gd K hgd hK=>(hs h gd K (hgd▸zgK hg)).mpr (hK _ _ hq)
theorem rgg(gs:List (Nat×Nat)){id:Nat}{ops:Array Oper}{σ1:Sto}{w1:World}(h:p)(hq:Q .normal σ1 ds w1)
  (hs:p→∀(gd:Nat→Option Tmp) (K:Sto→World→Prop),gdOk gs gd→opsV P gd n ops.toList σ w K=K σ1 w1:=by intro h1 gd K hg;simp only[gdOk]at hg;(simp (disch:=first|omega|assumption|rfl) only[go_sem,zag,zbE,zgm,hg,h1])<;>exact rfl)
  (hg:(gs.all fun p=>dstL ops.toList p.1==some p.2)=true:=by exact rfl) (hd:zaY ops=true:=by rfl):W P r n (.region id ops false) Q σ ds w:=ro (reg gs h hq hs hg) hd
end
end Go.Proofs.YtihbdhjibplldaaGreatDoor
namespace Go.Proofs.YtihbdhjibplldaaGreatDoor
open Go Go.ChangeShapes Go.WideShapes Go.ChangeAt Go.RowKit Go.WideElems
theorem Ext.below{w x:World}(h:Ext w x):RowKit.Below w.heap.size w x:=⟨h.os,h.tape,h.output,h.size,fun k hk=>h.block k hk (fun h=>h)⟩
theorem Ext.kept{w x:World}(h:Ext w x)(may:MemPlace→Prop):w.keptBut x may:=by
 refine⟨h.os,h.output,fun i hi=>?_⟩
 rw[h.block i hi (fun h=>h)]
 cases hw:w.heap[i]? with
 |none=>trivial
 |some o=>cases o<;>simp
theorem zcY{H:Type}{enc:TypeId×Value→H}{P:Program}(hl:laidOutB P=true){W W':World}{sp:Nat→Bool}(hE:Ext W W'):
  ∀{ts:List TypeId} {vs:List Value} {ds:List (DataW H)} {ps:List MemPlace},(∀t∈ts,P.readableRec t=true∧t<P.types.size)→DataW.TrodAll enc P W 0 (fun _=>true) true ts vs ds ps→(∀x∈ps,x.block<W.heap.size)→(∀x∈ps,sp x.block=true)→
   DataW.TrodAll enc P W' 0 sp true ts vs ds ps
 | [],_,_,_,_,h,_,_=>by
  obtain⟨rfl,rfl,rfl⟩:=trodAll_nil h
  exact trodAll_mk0
 |_::_,_,_,_,ht,h,hlt,hs=>by
  obtain⟨v,vs1,d,ds1,a,b,rfl,rfl,rfl,h1,h2⟩:=trodAll_cons h
  obtain⟨hr,hrow⟩:=ht _ (List.mem_cons_self ..)
  exact trodAll_cons_mk (WideElems.Trod_stays hl hr hrow h1 (fun x hx=>hE.below.same (hlt x (List.mem_append_left _ hx))) (fun x hx=>hs x (List.mem_append_left _ hx)))
   (zcY hl hE (fun t h=>ht t (List.mem_cons_of_mem _ h)) h2 (fun x hx=>hlt x (List.mem_append_right _ hx)) (fun x hx=>hs x (List.mem_append_right _ hx)))
theorem zhW{w x:World}(h:Ext w x){b:Nat}(hb:b<w.heap.size)(o:Nat):x.frozen? ⟨b,o,Option.none⟩=w.frozen? ⟨b,o,Option.none⟩:=by
 unfold World.frozen?
 rw[h.block b hb (fun h=>h)]
theorem law_post{H:Type}{enc:TypeId×Value→H}{P:Program}{f:Func}{s:ChangeSpec}{apart fresh handsOn again:Bool}{W W':World}{args:Array Value}{ds gs:List (DataW H)}{before:List MemPlace}
  (hW:DataW.Whole enc P f.params.toList s.vars apart W args.toList ds gs before) (hvn:s.vars=[]) (hspec:s.fn H ds={results:=[.lit (.bool true)],args:=ds}) {tb:TypeId} (hrt:f.resultTypes=#[tb]) (htb:P.underlying tb=some .bool)
  (hl:laidOutB P=true) (hrd:∀t∈f.params.toList,P.readableRec t=true∧t<P.types.size) (hE:Ext W W'):s.post enc P f apart fresh handsOn again W args (.bool true) W':=by
 have hlt:=hW.lt
 have hW0:=hW
 obtain⟨p,q,hA,hV,hpq,hfz,hnd⟩:=hW
 have hq:gs=[]∧q=[]:=by
  rw[hvn]at hV
  cases gs with
  |nil=>exact⟨rfl,hV⟩
  |cons _ _=>exact hV.elim
 obtain⟨rfl,rfl⟩:=hq
 rw[List.append_nil]at hpq
 subst hpq
 have hres:∀(b:Nat) (sp:Nat→Bool) (hd:Bool),DataW.TrodAll enc P W' b sp hd f.resultTypes.toList ((Value.bool true).resultList f.resultTypes.size) (s.fn H (ds++ [])).results []:=fun b sp hd=>by
  rw[List.append_nil,hspec,hrt]
  exact trodAll_mk1 (shut_bool htb true)
 have hargs:∀sp:Nat→Bool,(∀x∈before,sp x.block=true)→DataW.TrodAll enc P W' 0 sp true f.params.toList args.toList (s.fn H (ds++ [])).args before:=fun sp hs=>by
  rw[List.append_nil,hspec]
  exact zcY hl hE hrd hA hlt hs
 have hvars:∀sp:Nat→Bool,DataW.TrodVars enc P W' sp s.vars (s.fn H (ds++ [])).vars []:=fun sp=>by
  rw[List.append_nil,hspec,hvn];rfl
 have hold:∀x∈before,(fun b=>decide (b<W.heap.size)) x.block=true:=fun x hx=>by simpa using hlt x hx
 refine⟨ds,[],before,[],before,[],hW0,hres _ _ _,hargs _ hold,hvars _,hE.kept _,fun _=>?_⟩
 refine⟨fun j t r h1 h2=>?_,_,_,([]++before)++ [],⟨[]++before,[],trodAll_append (hargs _ (fun _ _=>rfl)) (hres _ _ _),hvars _,rfl,?_,?_⟩,?_⟩
 ·rw[hrt]at h1 h2
  match j with
  |0=>
   simp at h1
   subst h1
   have:r= .bool true:=by simpa [Value.resultList] using h2.symm
   subst this
   exact okWide_bool_mk htb true
  |j+1=>simp at h1
 ·intro b off hp
  have hp':MemPlace.cell b off∈before:=by simpa using hp
  rw[zhW hE (show b<W.heap.size from hlt _ hp')]
  exact hfz b off hp'
 ·intro ha
  simpa using hnd ha
 ·intro x hx _
  simpa using hx
/-! arguments -/
section
variable {H : Type} {enc : TypeId × Value → H} {P : Program} {w : World} {base : Nat} {sp : Nat → Bool} {held : Bool}
end
end Go.Proofs.YtihbdhjibplldaaGreatDoor
namespace Go.Proofs.YtihbdhjibplldaaGreatDoor
open Go
section
variable {H : Type} {enc : TypeId × Value → H} {P : Program} {w : World} {base : Nat} {sp : Nat → Bool} {held : Bool}
end
class Tr (p:World→Prop):Prop where
 tr:∀{w x:World},Ext w x→p w→p x
theorem tr{p:World→Prop}[h:Tr p]{w x:World}(hE:Ext w x)(hp:p w):p x:=h.tr hE hp
instance Tr.and{p q:World→Prop}[Tr p][Tr q]:Tr fun w=>p w∧q w:=⟨fun hE h=>⟨tr hE h.1,tr hE h.2⟩⟩
instance Tr.cell{a:Option Addr}{v:Value}:Tr fun w=>zad w a=some v:=⟨fun hE h=>zab hE h⟩
instance Tr.cells{a:Option Addr}{k:Nat}{l:List Value}:Tr fun w=>zaq w a k=some l:=⟨fun hE h=>zaj hE h⟩
instance Tr.ext{w0:World}:Tr fun w=>Ext w0 w:=⟨fun hE h=>h.trans hE⟩
instance Tr.row{v:Value}{l:List Value}:Tr fun w=>Row w v l:=⟨fun hE h=>h.ext hE⟩
instance Tr.obj{b:Nat}{o:Obj}:Tr fun w=>w.heap[b]? =some o:=⟨fun hE h=>Ext.at hE h⟩
instance Tr.const{p:Prop}:Tr fun _=>p:=⟨fun _ h=>h⟩
instance Tr.all{α:Sort _}{p:α→World→Prop}[∀a,Tr (p a)]:Tr fun w=>∀a,p a w:=⟨fun hE h a=>tr hE (h a)⟩
instance Tr.ex{α:Sort _}{p:α→World→Prop}[∀a,Tr (p a)]:Tr fun w=>∃a,p a w:=⟨fun hE h=>h.elim fun a h=>⟨a,tr hE h⟩⟩
attribute [go_sem] decide_true decide_false
theorem sc{p q:Prop}(h:p)(hs:p→q=True:=by intro h1;simp only[go_sem,h1]):q:=(hs h).mpr trivial
/-! many steps at once -/
structure Gto(p q:Prop):Prop where
 of:q→p
section
variable {P : Program} {r : Option Nat} {n : Nat} {Q : Post} {σ : Sto} {ds : List Deferred} {w : World} {p q s : Prop} {L : List Oper} {F : (Nat → Option Tmp) → (Sto → World → Prop) → Prop}
theorem zjm:Gto p p:=⟨id⟩
theorem gto_c(h:Ctl p q)(k:Gto q s):Gto p s:=⟨fun g=>c_r (k.of g) h⟩
theorem gto_r{id:Nat}{ops:Array Oper}{σ1:Sto}{w1:World}(hs:∀(gd:Nat→Option Tmp) (K:Sto→World→Prop),gd=dstL ops.toList→opsV P gd n ops.toList σ w K=K σ1 w1)(hd:zaY ops=true)(k:Gto (Q .normal σ1 ds w1) q):
  Gto (W P r n (.region id ops false) Q σ ds w) q:=⟨fun g=>zeA hd fun gd K hgd hK=>(hs gd K hgd).mpr (hK _ _ (k.of g))⟩
theorem gto_t{c:Operand}{x y:Code}(hc:ev n σ c= .bool true)(k:Gto (W P r n x Q σ ds w) q):Gto (W P r n (.cond c x y) Q σ ds w) q:=⟨fun g=>zes hc (fun _=>k.of g) (fun h=>by cases h)⟩
theorem gto_f{c:Operand}{x y:Code}(hc:ev n σ c= .bool false)(k:Gto (W P r n y Q σ ds w) q):Gto (W P r n (.cond c x y) Q σ ds w) q:=⟨fun g=>zes hc (fun h=>by cases h) (fun _=>k.of g)⟩
theorem go(h:p)(hq:s)(hs:p→Gto q s:=by
  intro h1
  repeat (first
   | (apply gto_c;· (with_reducible constructor)<;>exact rfl)
   | (apply gto_r;(intro gd K hgd;(simp (disch:=first|omega|assumption|rfl) only[go_sem,h1])<;>with_reducible exact rfl);rfl)
   | (apply gto_t;· first| (simp only[go_sem,h1];done)| (simp only[go_sem,h1];exact rfl))
   | (apply gto_f;· first| (simp only[go_sem,h1];done)| (simp only[go_sem,h1];exact rfl)))
  exact zjm):q:=(hs h).of hq
theorem rgo{σ1:Sto}{w1:World}(h:p)(hq:s)
  (hs:p→∀(gd:Nat→Option Tmp) (K:Sto→World→Prop),F gd K=K σ1 w1:=by intro h1 gd K;(first| (simp (disch:=first|omega|assumption|rfl) only[go_sem,h1])|skip)<;>exact rfl)
  (hg:p→Gto (Q .normal σ1 ds w1) s:=by
   intro h1
   repeat (first
    | (apply gto_c;· (with_reducible constructor)<;>exact rfl)
    | (apply gto_r;(intro gd K hgd;(simp (disch:=first|omega|assumption|rfl) only[go_sem,h1])<;>with_reducible exact rfl);rfl)
    | (apply gto_t;· first| (simp only[go_sem,h1];done)| (simp only[go_sem,h1];exact rfl))
    | (apply gto_f;· first| (simp only[go_sem,h1];done)| (simp only[go_sem,h1];exact rfl)))
   exact zjm):Rest P Q ds L F:=
 re (p:=True) trivial ((hg h).of hq) fun _=>hs h
theorem zbq{c:Code}(N:Nat)(I:Nat→Sto→World→Prop)(h0:I 0 σ w)
  (hs:∀i σ w,i<N→(decide ((i:Int)<(N:Int))=true∧(0:Int)≤(i:Int)∧(i:Int)<(N:Int)∧(i:Int)+1=((i+1:Nat):Int))→I i σ w→W P r n c (zc0 (fun σ ds w=>ds=[]∧I (i+1) σ w) Q) σ [] w)
  (he:∀σ w,decide ((N:Int)<(N:Int))=false→I N σ w→W P r n c (zc0 (fun _ _ _=>False) Q) σ [] w):W P r n (.loop c) Q σ [] w:=by
 refine zbg (fun m σ ds w=>ds=[]∧∃i,i+m=N∧I i σ w) N ⟨rfl,0,by omega,h0⟩ ?_
 rintro m σ ds w ⟨rfl,i,him,hI⟩
 by_cases h:i<N
 ·refine zav (hs i σ w h ⟨decide_eq_true (by omega),by omega,by omega,by push_cast;rfl⟩ hI) ?_
  intro e σ' ds' w' hq
  cases e<;>first|exact hq|exact⟨m - 1,by omega,hq.1,i+1,by omega,hq.2⟩
 ·have e1:i=N:=by omega
  subst e1
  refine zav (he σ w (decide_eq_false (by omega)) hI) ?_
  intro e σ' ds' w' hq
  cases e<;>first|exact hq|exact hq.elim
end
set_option maxRecDepth 10000
structure WX(w:World):Prop where
 ml:∃m,w.cell? ⟨1,0,Option.none⟩=some (.int .i64 m)
 p10:∃t fr,w.heap[0]? =some (.cells (Lib.pow10Tab.map fun z=>Value.int .u64 z).toArray t fr)
 er:∃t p,w.cell? ⟨7,0,Option.none⟩=some (.iface t p)
 tz:∃x,w.cell? ⟨3,15,Option.none⟩=some (.int .u8 x)∧0≤x∧x<256
 tv:w.cell? ⟨3,15,Option.none⟩=some (.int .u8 4)
theorem WX.ext{w x:World}(h:WX w)(hE:Ext w x):WX x:=by
 obtain⟨m,h1⟩:=h.ml
 obtain⟨t,fr,h2⟩:=h.p10
 obtain⟨u,p,h3⟩:=h.er
 obtain⟨x,h4,h5⟩:=h.tz
 exact⟨⟨m,zb8 hE h1⟩,⟨t,fr,hE.at h2⟩,⟨u,p,zb8 hE h3⟩,⟨x,zb8 hE h4,h5⟩,zb8 hE h.tv⟩
instance WX.tr:Tr WX:=⟨fun hE h=>h.ext hE⟩
theorem WX.tab{w:World}(h:WX w){name:String}(hn:Tryz.prog.globalNamed name=some 0):Lib.TabIs Tryz.prog w name .u64 Lib.pow10Tab:=by
 obtain⟨t,fr,h⟩:=h.p10
 unfold Lib.TabIs World.var?
 rw[hn,Option.bind_some,h]
theorem zcR(w:World):∀n,(w.drewN n).drawn=w.drawn+n
 |0=>rfl
 |n+1=>by
  have:=zcR w n
  simp only[World.drewN]at this ⊢
theorem Ext.drewN(w:World)(n:Nat):Ext w (w.drewN n):=⟨rfl,rfl,rfl,Nat.le_refl _,fun _ _ _=>rfl,by rw[zcR];omega⟩
theorem Ext.of_below{w w':World}(h:RowKit.Below w.heap.size w w')(hd:w.drawn≤w'.drawn):Ext w w':=⟨h.os,h.tape,h.output,h.size,fun b hb _=>h.block b hb,hd⟩
theorem Ext.grow(w:World)(n:Nat)(os:Array Obj):Ext w (Go.Sort.grow (w.drewN n) os):=
 ⟨rfl,rfl,rfl,by show w.heap.size≤(w.heap++os).size;rw[Array.size_append];omega,fun b hb _=>by
  show(w.heap++os)[b]? =_
  rw[Array.getElem?_append_left hb],by show w.drawn≤(w.drewN n).drawn;rw[zcR];omega⟩
theorem zf7(w:World)(a:Addr)(n:Nat):(w.freeze a n).drawn=w.drawn:=by unfold World.freeze;split<;>rfl
theorem Ext.bytes(w:World)(e:TypeId)(s:ByteArray):Ext w (Lib.bytesWorld w e s):=
 Ext.of_below (Lib.bytesWorld_below _ _ _) (by
  unfold Lib.bytesWorld
  rw[zf7]
  exact Nat.le_succ _)
/-! contracts -/
theorem zhH{w:World}(hW:WX w)(s:Lab)(c:UInt8)(hs:s.length<4000000000):
  Fn Tryz.prog 100 #[vs s,vs [c]] w (fun v w'=>v= .tuple #[vs (cutB c s).1,vs (cutB c s).2.1,.bool (cutB c s).2.2]∧Ext w w'):=by
 obtain⟨m,hm⟩:=hW.ml
 refine Fn.of_calls (Calls.mono (Any.strings_Cut Tryz.lays145 ⟨s.toArray⟩ ⟨#[c]⟩ m w (show s.toArray.size<_ by simp;omega) hm) ?_)
 rintro _ w' ⟨he,n,rfl⟩
 refine⟨_,he,?_,Ext.drewN w n⟩
 rw[show Lib.cut (⟨s.toArray⟩:ByteArray).data.toList (⟨#[c]⟩:ByteArray).data.toList=cutB c s from zjE c s]
theorem zbR(w:World)(s p:Lab):Fn Tryz.prog 84 #[vs s,vs p] w (fun v w'=>v= .bool (p.isPrefixOf s)∧w'=w):=
 Fn.of_calls (Calls.mono (Any.strings_HasPrefix Tryz.lays99 ⟨s.toArray⟩ ⟨p.toArray⟩ w) fun _ _ ⟨he,hw⟩=>⟨_,he,rfl,hw⟩)
theorem zdG(w:World)(s p:Lab):Fn Tryz.prog 158 #[vs s,vs p] w (fun v w'=>v= .tuple #[vs (Lib.trimPrefix s p),.bool (p.isPrefixOf s)]∧w'=w):=
 Fn.of_calls (Calls.mono (Any.strings_CutPrefix Tryz.lays103 ⟨s.toArray⟩ ⟨p.toArray⟩ w) fun _ _ ⟨he,hw⟩=>⟨_,he,rfl,hw⟩)
theorem zgZ{w:World}(hW:WX w)(n:Int)(h0: -9223372036854775808≤n)(h1:n≤9223372036854775807):Fn Tryz.prog 41 #[vi n] w (fun v w'=>v=vs (Lib.itoa n)∧Ext w w'):=
 Fn.of_calls (Calls.mono (Any.strconv_Itoa Tryz.laysM171 n h0 h1 w (hW.tab (by kernel_rfl))) fun _ _ ⟨he,k,os,hw⟩=>⟨_,he,rfl,hw▸Ext.grow w k os⟩)
/-! digits cut off both ends -/
def digs10:Lab:=[48,49,50,51,52,53,54,55,56,57]
theorem digs_has(c:UInt8):digs10.contains c=digB c:=by
 have:∀n,n<256→digs10.contains (UInt8.ofNat n)=digB (UInt8.ofNat n):=by decide+kernel
 have h:=this c.toNat c.toNat_lt
 rwa [UInt8.ofNat_toNat]at h
theorem zde{α:Type}(p:α→Bool):∀l:List α,(l.dropWhile p=[])↔l.all p=true
 | []=>by simp
 |a::l=>by
  rw[List.dropWhile_cons]
  cases h:p a with
  |true=>simpa [h] using zde p l
  |false=>simp[h]
theorem zfH(s:Lab):(Lib.trimS s digs10=[])↔s.all digB=true:=by
 have e:(fun b=>digs10.contains b)=digB:=funext digs_has
 unfold Lib.trimS Lib.trimLeftS Lib.trimRightS
 simp only[e]
 rw[zde,List.all_eq_true,List.all_eq_true]
 constructor
 ·intro h x hx
  by_cases hd:digB x=true
  ·exact hd
  ·refine h x (List.mem_reverse.2 ?_)
   have key:∀l:Lab,x∈l→x∈l.dropWhile digB:=by
    intro l
    induction l with
    |nil=>intro h;cases h
    |cons a l ih=>
     intro hm
     rw[List.dropWhile_cons]
     split
     ·rename_i ha
      rcases List.mem_cons.1 hm with rfl|hm
      ·exact absurd ha hd
      ·exact ih hm
     ·exact hm
   exact key _ (List.mem_reverse.2 hx)
 ·intro h x hx
  have h1:=List.mem_reverse.1 hx
  exact h x (List.mem_reverse.1 ((List.dropWhile_sublist _).subset h1))
theorem zjS(w:World)(s:Lab)(h0:s≠ [])(hs:s.length≤9000000000000000000):Fn Tryz.prog 130 #[vs s,vs digs10] w (fun v w'=>v=vs (Lib.trimS s digs10)∧Ext w w'):=by
 refine Fn.of_calls (Calls.mono (Any.strings_Trim_set Tryz.lays160 (zero_of_info (n:=256) (by kernel_rfl)).1 (by kernel_rfl) ⟨s.toArray⟩ ⟨digs10.toArray⟩ w (by decide) (show 0<s.toArray.size by simpa using List.length_pos_iff.2 h0) (show s.toArray.size≤_ by simp;omega) (by decide) (ascii_of_all (by decide))) ?_)
 rintro _ w' ⟨he,q,rfl⟩
 exact⟨_,he,rfl,((Ext.alloc w _).trans (Ext.alloc _ _)).trans (Ext.drewN _ q)⟩
section
variable {P : Program} {d : Option Tmp} {ty : TypeId} {ps : String} {af : Array Edge} {g : Option (Nat × Bool)} {ρ : Operand → Value} {w : World} {K : Value → World → Prop}
theorem zhf{x y:Operand}{ts:Array TypeId}{u z v:Value}{w':World}(hx:ρ x=u)(hy:ρ y=z)(hr:(Builtin.copy_ ts ty #[u,z]).run P w= .ok v w')(h:K v w'):
  opW P ⟨d,.call ⟨.builtin .copy,#[x,y],ts⟩,ty,ps,af,g⟩ ρ w K:=by
 simp only[opW,execOp,Sem.run_bind,resolve]
 simp only[Sem.run_pure,Result.andThen_ok,invoke,builtin]
 exact zaw (s:=Builtin.copy_ ts ty (Array.map ρ #[x,y])) (by simpa [hx,hy] using hr) h
end
theorem Clone_ok(w:World)(s:Lab)(hs:s.length≤1000000000):Fn Tryz.prog 227 #[vs s] w (fun v w'=>v=vs s∧Ext w w'):=by
 refine enter Tryz.func227 Tryz.ntmps227 rfl rfl ?_
 refine go trivial ?_
 by_cases h0:s=[]
 ·subst h0
  refine wt (by decide:decide (((0:Nat):Int)=0)=true) ?_
  refine go trivial ?_
  refine rt0 Tryz.ntmps227 ?_
  exact⟨rfl,Keep.refl _ _⟩
 have hp:=List.length_pos_iff.2 h0
 have hd:decide ((s.length:Int)=0)=false:=decide_eq_false (by omega)
 refine wf hd ?_
 repeat refine c_r ?_
 refine rq ?_;intro gd K hgd hK
 try simp only[go_sem]
 refine zfV (n:=s.length) rfl rfl rfl rfl (vq0) (vq0) (by show 1*_≤_;omega) (by omega) rfl ?_
 try simp only[go_sem]
 refine hK _ _ ?_;clear hK hgd;clear K;try clear gd
 repeat refine c_r ?_
 refine rq ?_;intro gd K hgd hK
 try simp only[go_sem]
 have hM:(madeCells #[Value.int .u8 0] s.length).size=s.length:=by simp[size_madeCells]
 refine zhf (u:= .slice (some ⟨w.heap.size,0,Option.none⟩) s.length s.length) (z:=vs s) (vq0) (vq0)
  (Lib.run_copy_row_string (P:=Tryz.prog) _ _ _ _ 5 w.heap.size 0 s.length s.length ⟨s.toArray⟩ _ 5 rfl (by kernel_rfl) (World.alloc_heap_new w _) (by simp[ByteArray.size]) (by rw[hM];simp[ByteArray.size])) ?_
 rw[World.setRow_alloc_new]
 have hY:((madeCells #[Value.int .u8 0] s.length).toList.take 0++Lib.byteCells (⟨s.toArray⟩:ByteArray).data.toList++(madeCells #[Value.int .u8 0] s.length).toList.drop (0+(⟨s.toArray⟩:ByteArray).size)).toArray=(s.map zao).toArray:=by
  rw[List.take_zero,List.nil_append,List.drop_of_length_le (by rw[Array.length_toList,hM];simp[ByteArray.size]),List.append_nil]
  rfl
 rw[hY]
 try simp only[go_sem]
 refine hK _ _ ?_;clear hK hgd;clear K;try clear gd
 have hb:(w.alloc (.cells (s.map zao).toArray 5)).heap[w.heap.size]? =some (.cells (s.map zao).toArray 5 (0,0)):=World.alloc_heap_new w _
 have hz0:(0:Int)≤0:=Int.le_refl _
 have hl1:(0:Int)<(s.length:Int):=by omega
 repeat refine c_r ?_
 refine rq ?_;intro gd K hgd hK
 try simp (disch:=first|omega|assumption|rfl) only[go_sem,hz0,hl1,Int.toNat_zero,Nat.zero_mul,zak]
 refine za4 (u:= .pointer (some ⟨w.heap.size,0,Option.none⟩)) (z:=vi s.length) (vq0) (vq0) (Lib.run_unsafeString_row (P:=Tryz.prog) _ _ _ _ 5 (by rfl) (by rfl) w.heap.size (s.map zao).toArray.size (by unfold World.shape?;rw[hb]) s h0 (by simp) (by omega) (fun j y hj=>Lib.cells_of_row hb (s.map zao).toArray.size j _ (by rw[List.take_of_length_le (by simp)];simp[hj,zao]))) ?_
 have hfk:=Keep.to_ext (Ext.alloc w (.cells (s.map zao).toArray 5)) rfl (fun b (hS:b=w.heap.size)=>by omega) (zeb (w.alloc (.cells (s.map zao).toArray 5)) ⟨w.heap.size,0,Option.none⟩ s.length)
 try simp only[go_sem]
 refine hK _ _ ?_;clear hK hgd;clear K;try clear gd
 repeat refine c_r ?_
 refine rt0 Tryz.ntmps227 ?_
 exact⟨rfl,hfk⟩
/-! where the number is too great:an error,whatever the variable holds -/
theorem ze2(w:World)(f s:Lab)(hs:s.length≤1000000000)(hv:∃t p,w.cell? ⟨7,0,Option.none⟩=some (.iface t p)):
  Calls Tryz.prog 207 #[vs f,vs s] w (fun e w'=>(∃N,e= .returned (.pointer (some ⟨N,0,Option.none⟩)))∧Ext w w'):=by
 obtain⟨te,pe,hv⟩:=hv
 have hvd:w.drew.cell? ⟨7,0,Option.none⟩=some (.iface te pe):=hv
 have hG:7<w.heap.size:=World.block_lt_of_cell? (w:=w) (h:=hv)
 have mx:=mixed
 go_enter Tryz.func207,Tryz.ntmps207
 go_wp2
 go_region_with_o (
  go_at_call 227
  refine(Fn.calls (Clone_ok _ s hs)).mono ?_
  rintro e w2 ⟨_,rfl,rfl,hbel⟩
  have hv2:w2.cell? ⟨7,0,Option.none⟩=some (.iface te pe):=zb8 hbel hvd)
 all_goals (
  go_wp2
  go_ret
  exact⟨⟨_,rfl⟩,((Keep.drew NoS w).trans hbel).trans (Ext.alloc _ _)⟩)
theorem zhJ(w:World)(f s:Lab)(hs:s.length≤1000000000)(hv:∃t p,w.cell? ⟨7,0,Option.none⟩=some (.iface t p)):
  Calls Tryz.prog 181 #[vs f,vs s,vi 10,vi 64,.iface 271 (.int .i64 1)] w (fun e w'=>(∃t p,e= .returned (.iface t p))∧Ext w w'):=by
 have mx:=mixed
 have hq12:∀W,(binOp .eql 100 (.iface 271 (.int .i64 1)) (.iface 271 (.int .i64 2))).run Tryz.prog W= .ok (.bool false) W:=fun W=>Lib.run_eql_iface_int W 1 2 Tryz.laysPu14.t24 Tryz.laysPu14.c34 Tryz.laysPu14.t34
 have hq11:∀W,(binOp .eql 100 (.iface 271 (.int .i64 1)) (.iface 271 (.int .i64 1))).run Tryz.prog W= .ok (.bool true) W:=fun W=>Lib.run_eql_iface_int W 1 1 Tryz.laysPu14.t24 Tryz.laysPu14.c34 Tryz.laysPu14.t34
 go_enter Tryz.func181,Tryz.ntmps181
 go_wp2_with (go_at_call 207;refine(ze2 _ f s hs hv).mono ?_)
 rintro e w2 ⟨⟨N,rfl⟩,hE⟩
 go_wp2
 go_ret
 exact⟨⟨_,_,rfl⟩,hE⟩
theorem zhc{M:Nat}(hM:M=18446744073709551615):∀(l:Lab) (acc:Nat),l.all digB=true→acc≤M→
  (l.foldl (fun n c=>10*n+(c.toNat - 48)) acc≤M→Lib.parseUintM M acc l= .ok (l.foldl (fun n c=>10*n+(c.toNat - 48)) acc))∧(M<l.foldl (fun n c=>10*n+(c.toNat - 48)) acc→Lib.parseUintM M acc l= .range)
 | [],acc,_,ha=>⟨fun _=>rfl,fun h=>absurd h (by simpa using ha)⟩
 |c::l,acc,hd,ha=>by
  simp only[List.all_cons,Bool.and_eq_true]at hd
  have hc:=hd.1
  unfold digB at hc
  simp only[Bool.and_eq_true,decide_eq_true_eq]at hc
  have mono:∀(l:Lab) (a:Nat),a≤l.foldl (fun n c=>10*n+(c.toNat - 48)) a:=by
   intro l
   induction l with
   |nil=>exact fun a=>Nat.le_refl _
   |cons c l ih=>exact fun a=>Nat.le_trans (show a≤10*a+(c.toNat - 48) by omega) (ih _)
  have hm:=mono l (10*acc+(c.toNat - 48))
  rw[List.foldl_cons]
  unfold Lib.parseUintM
  rw[if_pos hc,Nat.mul_comm acc 10]
  by_cases h1:M<10*acc+(c.toNat - 48)
  ·refine⟨fun h=>by omega,fun _=>?_⟩
   rw[if_pos h1]
   split<;>rfl
  ·by_cases h2:1844674407370955162≤acc
   ·omega
   rw[if_neg h2,if_neg h1]
   exact zhc hM l _ hd.2 (by omega)
theorem zgq{w:World}(hW:WX w)(s:Lab)(h0:s≠ [])(hd:s.all digB=true)(hs:s.length≤1000000000):
  Fn Tryz.prog 155 #[vs s,vi 10,vi 64] w (fun v w'=>(if valD s≤18446744073709551615 then v= .tuple #[.int .u64 (valD s),.nilIface] else∃n t p,v= .tuple #[.int .u64 n,.iface t p])∧Ext w w'):=by
 have hm:(2:Nat) ^ 64 - 1=18446744073709551615:=by decide
 obtain⟨p1,p2⟩:=zhc (M:=2 ^ 64 - 1) hm s 0 hd (Nat.zero_le _)
 have hsz:(⟨s.toArray⟩:ByteArray).size≤9223372036854775806:=by show s.toArray.size≤_;simp;omega
 by_cases hv:valD s≤18446744073709551615
 ·have e1:Lib.parseUintB 64 (⟨s.toArray⟩:ByteArray).data.toList= .ok (valD s):=by
   unfold Lib.parseUintB
   rw[if_neg (by simpa using h0)]
   exact p1 (by rw[hm];exact hv)
  refine Fn.of_calls (Calls.mono (Any.strconv_ParseUint_10_at64_ok Tryz.laysPu14 ⟨s.toArray⟩ hsz _ e1 w) ?_)
  rintro _ w' ⟨rfl,h⟩
  refine⟨_,rfl,by rw[if_pos hv],?_⟩
  rcases h with rfl|rfl
  ·exact Keep.refl _ _
  ·exact Ext.bytes _ _ _
 ·have e1:Lib.parseUintB 64 (⟨s.toArray⟩:ByteArray).data.toList= .range:=by
   unfold Lib.parseUintB
   rw[if_neg (by simpa using h0)]
   exact p2 (by rw[hm];exact Nat.lt_of_not_le hv)
  have hI:=AnyPu.internal_strconv_ParseUint_10_at64 {Tryz.laysPu14 with} ⟨s.toArray⟩ hsz w
  rw[e1]at hI
  have hI:Calls Tryz.prog 180 #[vs s,.int .i64 10,.int .i64 64] w fun e w'=>e= .returned (.tuple #[.int .u64 18446744073709551615,.iface 271 (.int .i64 1)])∧(w'=w∨w'=Lib.bytesWorld w 5 ⟨s.toArray⟩):=hI
  refine Fn.of_calls ?_
  simp only[if_neg hv]
  go_enter Tryz.func155,Tryz.ntmps155
  go_wp2_with (go_at_call 180;refine hI.mono ?_)
  rintro e W1 rfl hw
  have hE1:Ext w W1:=by
   rcases hw with rfl|rfl
   ·exact Keep.refl _ _
   ·exact Ext.bytes _ _ _
  clear hw
  have hW1:=hW.ext hE1
  go_wp2_with (go_at_call 181;refine(zhJ _ [80,97,114,115,101,85,105,110,116] s hs hW1.er).mono ?_)
  rintro e W2 ⟨⟨t,p,rfl⟩,hE2⟩
  go_wp2
  go_ret2
  exact⟨_,rfl,⟨_,_,_,rfl⟩,hE1.trans hE2⟩
theorem Bld.mono{B B':Nat}{w:World}{b:Nat}{bs:List UInt8}(h:Bld B w b bs)(hB:B'≤B):Bld B' w b bs:=by
 obtain⟨p,v,h1,h2,h3⟩:=h.ex
 exact⟨p,v,h1,h2,h3.mono hB⟩
theorem zid(w:World)(n:Nat)(hn:n≤100000000000):extC Tryz.prog 90 #[vi n] w (fun v w'=>∃cs:Array Value,v= .slice (some ⟨w.heap.size,0,Option.none⟩) n cs.size∧w'=w.drew.drew.alloc (.cells cs 5 (0,0))∧n≤cs.size∧cs.size≤maxLen):=by
 obtain⟨cs,hrun,hle,hmax⟩:=Lib.run_makeNoZero (P:=Tryz.prog) w #[3] 32 5 rfl n (by omega)
 refine⟨_,_,?_,cs,rfl,rfl,hle,hmax (by unfold maxLen;omega)⟩
 rw[run_callFunc_extern Tryz.func90 (by kernel_rfl) (by kernel_rfl) (by kernel_rfl) (e:=Extern.BytealgMakeNoZero.makeNoZero #[3] #[32]) (by kernel_rfl),hrun]
 rfl
section
variable {P : Program} {d : Option Tmp} {ty : TypeId} {ps : String} {af : Array Edge} {g : Option (Nat × Bool)} {ρ : Operand → Value} {w : World} {K : Value → World → Prop}
theorem v_cap(a:Array Operand)(t:Array TypeId):opV P ⟨d,.call ⟨.builtin .cap,a,t⟩,ty,ps,af,g⟩ ρ w K=opL P ⟨d,.call ⟨.builtin .cap,a,t⟩,ty,ps,af,g⟩ ρ w K .mk:=nr rfl
theorem op_cap{x:Operand}{t e:TypeId}{a:Option Addr}{n c:Nat}(ht:tyU P t=some (.slice e))(hx:ρ x= .slice a n c)(h:K (vi c) w):opW P ⟨d,.call ⟨.builtin .cap,#[x],#[t]⟩,ty,ps,af,g⟩ ρ w K:=by
 simp only[opW,execOp,Sem.run_bind,resolve]
 simp only[Sem.run_pure,Result.andThen_ok,invoke,builtin]
 refine zaw (s:=Builtin.cap_ #[t] ty (Array.map ρ #[x])) (v:=vi c) (w':=w) ?_ h
 simp[Builtin.cap_,hx,run_underlying (show P.underlying t=_ from ht),goInt]
end
attribute [go_sem ↓] v_cap
theorem zhV{w:World}{b n:Nat}(hb:w.heap[b]? =some (.cells #[.pointer (some ⟨b,0,Option.none⟩),.slice Option.none 0 0] 97 (0,0)))(hn:n≤100000000000):
  Fn Tryz.prog 64 #[.pointer (some ⟨b,0,Option.none⟩),vi n] w (fun _ w'=>Bld w.heap.size w' b []∧Keep (fun i=>i=b∨w.heap.size≤i) w w'):=by
 refine enter Tryz.func64 Tryz.ntmps64 rfl rfl ?_
 repeat refine c_r ?_
 refine zaS (fun _=>false) [(0,true),(1,true),(2,true),(3,true),(6,true),(9,true),(10,true),(11,true),(12,true),(13,true),(4,false),(5,true),(7,true),(8,false),(14,true),(15,true)] (zdx w.heap.size) mixed (by kernel_rfl) ?_;intro gd K x hgd hx hxe hK;have hx0:=zaP hxe;clear hxe
 have c1:zad x (some ⟨b,1,Option.none⟩)=some (.slice Option.none 0 0):=za1 (Ext.at hx0 hb) rfl
 simp (disch:=first|omega|assumption|rfl) only[go_sem,c1]
 have hbs:b<w.heap.size:=(Array.getElem?_eq_some_iff.1 hb).1
 refine⟨zbw hbs,zbw hbs,?_⟩
 refine op_cap rfl (vr0) ?_
 refine⟨.inr (Keep.refl _ _),?_⟩
 simp (disch:=first|omega|assumption|rfl) only[go_sem,c1]
 rw[show (2:Int)*((0:Nat):Int)+(n:Int)=(n:Int) by omega]
 obtain⟨_,y1,hr,cs,rfl,hy,hle,hmx⟩:=zid x n hn
 have hEy:Ext x y1:=hy▸((Keep.drew NoS x).trans (Keep.drew NoS _)).trans (Ext.alloc _ _)
 refine⟨_,y1,hr,.inr hEy.keep,?_⟩
 have c2:zad y1 (some ⟨b,1,Option.none⟩)=some (.slice Option.none 0 0):=za1 (Ext.at (hx0.trans hEy) hb) rfl
 have hnew:y1.heap[x.heap.size]? =some (.cells cs 5 (0,0)):=by rw[hy];exact zax _ _
 have hsy:y1.heap.size=x.heap.size+1:=by rw[hy];exact zaB _ _
 have z0:(0:Int)≤((0:Nat):Int):=by omega
 simp (disch:=first|omega|assumption|rfl) only[go_sem,c2,z0,ite_self,Nat.sub_zero]
 refine hK _ _ ?_;clear hK hgd;clear K;try clear gd
 repeat refine c_r ?_
 refine rq ?_;intro gd K hgd hK
 try simp (disch:=first|omega|assumption|rfl) only[go_sem,c2]
 refine zhf (u:= .slice (some ⟨x.heap.size,0,Option.none⟩) 0 cs.size) (z:= .slice Option.none 0 0) (vr0) (vr0) (run_copy_none _ _ _ _ 5 _ _ _ _ _ _ (by kernel_rfl) (by kernel_rfl) rfl) ?_
 try simp only[go_sem]
 refine hK _ _ ?_;clear hK hgd;clear K;try clear gd
 repeat refine c_r ?_
 refine rq ?_;intro gd K hgd hK
 try simp only[go_sem]
 refine zcG (P:=Tryz.prog) (t:=32) (j:=1) (l:=[.pointer (some ⟨b,0,Option.none⟩),.slice Option.none 0 0]) (Ext.at (hx0.trans hEy) hb) (by simp) rfl rfl rfl ?_
 intro w3 hs3 hb3 hk3
 try simp only[go_sem]
 refine hK _ _ ?_;clear hK hgd;clear K;try clear gd
 repeat refine c_r ?_
 have hsx:=hx0.size
 have hn3:w3.heap[x.heap.size]? =some (.cells cs 5 (0,0)):=(hk3.block _ (by rw[hsy];omega) (fun h=>by have h:x.heap.size=b:=h;omega)).trans hnew
 refine zaf (.inl rfl) Tryz.ntmps64 rfl zae ?_
 refine⟨⟨⟨_,_,.inr rfl,by simpa using hb3,⟨rfl,.inr ⟨x.heap.size,cs.size,cs,rfl,hsx,hn3,Nat.zero_le _,hmx,by simp,rfl⟩⟩⟩⟩,?_⟩
 exact(((hx0.trans hEy).mono (fun i _ h=>h.elim)).trans (hk3.mono (fun i _ h=> .inl h)))
theorem zie{w:World}{b n:Nat}(hb:w.heap[b]? =some (.cells #[.pointer Option.none,.slice Option.none 0 0] 97 (0,0)))(hn:n≤100000000000):
  Fn Tryz.prog 45 #[.pointer (some ⟨b,0,Option.none⟩),vi n] w (fun _ w'=>Bld w.heap.size w' b []∧Keep (fun i=>i=b∨w.heap.size≤i) w w'):=by
 have hbs:b<w.heap.size:=(Array.getElem?_eq_some_iff.1 hb).1
 have d0:decide ((n:Int)<0)=false:=decide_eq_false (by omega)
 refine enter Tryz.func45 Tryz.ntmps45 rfl rfl ?_
 repeat refine c_r ?_
 refine rq ?_;intro gd K hgd hK
 try simp only[go_sem]
 refine Fn.mono (zcn (.inl rfl) hb) ?_
 rintro _ w1 ⟨hb1,hk1,hs1⟩
 try simp only[go_sem]
 refine hK _ _ ?_;clear hK hgd;clear K;try clear gd
 refine go d0 ?_
 have hb1s:b<w1.heap.size:=by omega
 refine zaS (fun _=>false) [(0,true),(1,true),(2,true),(3,true),(5,true),(6,true),(7,true),(8,true),(9,true),(11,true),(4,false),(10,true),(12,true)] (zdx w1.heap.size) mixed (by kernel_rfl) ?_;intro gd K x hgd hx hxe hK;have hx0:=zaP hxe;clear hxe
 have hbx:=Ext.at hx0 hb1
 have c1:zad x (some ⟨b,1,Option.none⟩)=some (.slice Option.none 0 0):=za1 hbx rfl
 simp (disch:=first|omega|assumption|rfl) only[go_sem,c1]
 refine⟨zbw hb1s,zbw hb1s,?_⟩
 refine op_cap rfl (vr0) ?_
 refine⟨.inr (Keep.refl _ _),?_⟩
 simp (disch:=first|omega|assumption|rfl) only[go_sem,c1]
 refine hK _ _ ?_;clear hK hgd;clear K;try clear gd
 repeat refine c_r ?_
 have hkx:Keep (fun i=>i=b∨w.heap.size≤i) w x:=(hk1.mono fun i _ h=> .inl h).trans (hx0.mono fun i _ h=>h.elim)
 have hsx:=hx0.size
 refine wc0 ?_ ?_
 ·intro _
  refine go trivial ?_
  refine rc trivial (zhV hbx hn) ?_
  rintro _ w3 ⟨hB,hk3⟩
  refine rgo trivial ?_
  refine zaf (.inl rfl) Tryz.ntmps45 rfl zae ?_
  exact⟨hB.mono (by omega),hkx.trans (hk3.mono fun i _ h=>h.imp id fun h=>by omega)⟩
 ·intro _
  refine go trivial ?_
  refine zaf (.inl rfl) Tryz.ntmps45 rfl zae ?_
  exact⟨⟨⟨_,_,.inr rfl,hbx,Own.nil _ _ _⟩⟩,hkx⟩
section
variable {P : Program} {x : World} {e : TypeId} {K : Value → World → Prop}
theorem zbj{t:TypeId}{cur:Array Value}{l:List Value}(hl:l.length=cur.size)(h1:∀v∈l,one v=true)(hs:tyS P t=l.length)(hi:(P.info? t).isSome=true)
  (hK:∀w',Ext x w'→w'.heap.size=x.heap.size+1→w'.heap[x.heap.size]? =some (.cells l.toArray e (0,0))→K undef w'):stK P t (.pointer (some ⟨x.heap.size,0,Option.none⟩)) (.agg l.toArray) (x.alloc (.cells cur e (0,0))) K:=by
 have hB3:=zax x (.cells cur e (0,0))
 have hE4:=Ext.alloc x (.cells cur e (0,0))
 have hs4:=zaB x (.cells cur e (0,0))
 refine zaK (P:=P) (t:=t) (l:=l) hB3 hl h1 hs hi ?_
 intro w5 hs5 hB5 hk5
 exact hK w5 (Keep.to_ext hE4 rfl (fun b hb=>by omega) hk5) (by omega) hB5
theorem Row.isOne{w:World}{v:Value}{l:List Value}(h:Row w v l):one v=true:=by
 obtain⟨a,c,rfl,_⟩:=h;rfl
theorem Rows.isOne{α:Type}{k:Nat}{C:List Value→α→Prop}{w:World}{v:Value}{l:List α}(h:Rows k C w v l):one v=true:=by
 obtain⟨a,c,rfl,_⟩:=h.open;rfl
end
def TyC(cs:List Value)(x:Int×Lab):Prop:=cs=[vi x.1,vs x.2]
theorem TyC.shape:zgU 2 TyC:=⟨fun h=>by rw[h];rfl,fun h=>by
 rw[h]
 intro q hq
 rcases List.mem_cons.1 hq with rfl|hq
 ·rfl
 ·rw[List.mem_singleton.1 hq];rfl⟩
def tyTab:List (Int×Lab):=[(1,[65]),(2,[78,83]),(5,[67,78,65,77,69]),(6,[83,79,65]),(12,[80,84,82]),(15,[77,88]),(16,[84,88,84]),(28,[65,65,65,65]),(39,[68,78,65,77,69])]
def zbI(k:Int):List (Int×Lab)→Lab×Bool
 | []=>([],false)
 |x::T=>if x.1=k then(x.2,true) else zbI k T
theorem bs_tab{P:Program}{t e:TypeId}{parts:List (Nat×Value)}{w:World}{K:Value→World→Prop}(hC:bsC P t 9 parts=some (e,(tyTab.flatMap fun x=>[vi x.1,vs x.2]).toArray))
  (h:∀w1,Ext w w1→Rows 2 TyC w1 (.slice (some ⟨w.heap.size,0,Option.none⟩) 9 9) tyTab→K (.slice (some ⟨w.heap.size,0,Option.none⟩) 9 9) w1):bsL P t 9 parts w K .mk:=by
 unfold bsL bsK
 rw[hC]
 refine h _ (Ext.alloc w _) (Rows.close (xs:=tyTab) (c:=9) (by decide) fun i hi=>?_)
 have hb:=zax w (.cells (tyTab.flatMap fun x=>[vi x.1,vs x.2]).toArray e (0,0))
 have hi9:i<9:=hi
 match i,hi9 with
 |0,_=>exact⟨_,zau (o:=0) (k:=2) hb (by decide),rfl⟩
 |1,_=>exact⟨_,zau (o:=2) (k:=2) hb (by decide),rfl⟩
 |2,_=>exact⟨_,zau (o:=4) (k:=2) hb (by decide),rfl⟩
 |3,_=>exact⟨_,zau (o:=6) (k:=2) hb (by decide),rfl⟩
 |4,_=>exact⟨_,zau (o:=8) (k:=2) hb (by decide),rfl⟩
 |5,_=>exact⟨_,zau (o:=10) (k:=2) hb (by decide),rfl⟩
 |6,_=>exact⟨_,zau (o:=12) (k:=2) hb (by decide),rfl⟩
 |7,_=>exact⟨_,zau (o:=14) (k:=2) hb (by decide),rfl⟩
 |8,_=>exact⟨_,zau (o:=16) (k:=2) hb (by decide),rfl⟩
theorem zdX(w:World):Fn Tryz.prog 51 #[] w (fun v w'=>Rows 2 TyC w' v tyTab∧Ext w w'):=by
 refine enter Tryz.func51 Tryz.ntmps51 rfl rfl ?_
 refine go trivial ?_
 refine rq ?_;intro gd K hgd hK
 try simp only[go_sem]
 iterate 9
  refine⟨by kernel_rfl,?_⟩
  rw[show ∀n s,bdV Tryz.prog 132 [(0,vi n),(1,.string s)]=some (.agg #[vi n,.string s]) from fun n s=>by kernel_rfl]
  try simp only[go_sem]
 refine bs_tab (e:=132) (by kernel_rfl) ?_
 intro w1 hE1 hR
 try simp only[go_sem]
 refine hK _ _ ?_;clear hK hgd;clear K;try clear gd
 repeat refine c_r ?_
 refine rt0 Tryz.ntmps51 ?_
 exact⟨hR,hE1⟩
theorem zjq{w:World}{v:Value}{T:List (Int×Lab)}(h:Rows 2 TyC w v T)(hT:T.length≤1000)(k:Int):
  Fn Tryz.prog 50 #[v,vi k] w (fun u w'=>u= .tuple #[vs (zbI k T).1,.bool (zbI k T).2]∧Ext w w'):=by
 obtain⟨a,c,rfl,hc,hg⟩:=h.open
 refine enter Tryz.func50 Tryz.ntmps50 rfl rfl ?_
 refine go trivial ?_
 refine zbq T.length (fun i σ x=>σ 9= .slice a T.length c∧σ 10=vi T.length∧σ 11=vi i∧σ 1=vi k∧zbI k T=zbI k (T.drop i)∧Ext w x) ?_ ?_ ?_
 ·exact⟨vr0,vr0,vr0,vr0,rfl,Keep.refl _ _⟩
 ·rintro i σ x hi p ⟨h9,h10,h11,h1,hf,hE⟩
  obtain⟨cs,g0,hcs⟩:=hg i hi
  have g:=zaj hE g0
  obtain⟨y,hy⟩:∃y,T[i]=y:=⟨_,rfl⟩
  rw[hy]at hcs
  have hcs:cs=[vi y.1,vs y.2]:=hcs
  subst hcs
  obtain⟨xa,rfl⟩:=Option.isSome_iff_exists.1 (zaO g)
  obtain⟨xi,hxi⟩:∃xi,adr (some xa) (i*2)=some xi:=⟨_,rfl⟩
  rw[hxi]at g
  have hi0:(0:Int)≤(i:Int):=by omega
  have hi1:(i:Int)<(T.length:Int):=by omega
  have hi2:(i:Int)+1=((i+1:Nat):Int):=by push_cast;rfl
  refine go (an4 h9 h10 h11 p) ?_
  refine rq ?_;intro gd K hgd hK
  try simp (disch:=first|omega|assumption|rfl) only[go_sem,h9,h11,hi0,hi1,hxi,g]
  refine zbj (P:=Tryz.prog) (l:=[vi y.1,vs y.2]) rfl ?_ rfl rfl ?_
  ·exact TyC.shape.ones (a:=y) rfl
  intro x1 hE1 hs1 hB1
  try simp only[go_sem]
  refine hK _ _ ?_;clear hK hgd;clear K;try clear gd
  have p0:=za1 (l:=[vi y.1,vs y.2]) (j:=0) hB1 rfl
  have p1:=za1 (l:=[vi y.1,vs y.2]) (j:=1) hB1 rfl
  rw[List.drop_eq_getElem_cons hi,hy]at hf
  by_cases he:y.1=k
  ·refine go (an5 p0 p1 h1 (decide_eq_true he) (Nat.zero_add 1)) ?_
   refine zaf (.inr rfl) Tryz.ntmps50 rfl (zac (v:=vs y.2) (vr0) (zac (v:= .bool true) (vr0) zae)) ?_
   rw[hf]
   unfold zbI
   rw[if_pos he]
   exact⟨rfl,hE.trans hE1⟩
  ·refine go (an8 p0 h1 (decide_eq_false he) h9 h10 h11 hi2 p) ?_
   refine⟨rfl,(vq1 h9),(vq1 h10),vq0,(vq1 h1),?_,hE.trans hE1⟩
   rw[hf]
   show(if y.1=k then _ else _)=_
   rw[if_neg he]
 ·rintro σ x p ⟨h9,h10,h11,h1,hf,hE⟩
  refine go (an4 h9 h10 h11 p) ?_
  refine zaf (.inr rfl) Tryz.ntmps50 rfl (zac (v:=vs []) (vr0) (zac (v:= .bool false) (vr0) zae)) ?_
  rw[hf,List.drop_length]
  exact⟨rfl,hE⟩
theorem zjU(w:World)(k:Int):Fn Tryz.prog 76 #[vi k] w (fun u w'=>u= .bool (zbI k tyTab).2∧Ext w w'):=by
 refine enter Tryz.func76 Tryz.ntmps76 rfl rfl ?_
 refine go trivial ?_
 refine rc trivial (zdX w) ?_
 rintro v w1 ⟨hR,hE1⟩
 refine rd trivial (zjq hR (by decide) k) ?_
 rintro _ w2 ⟨rfl,hE2⟩
 refine rgo trivial ?_
 refine rt0 Tryz.ntmps76 ?_
 exact⟨rfl,hE1.trans hE2⟩
def zaU(sep:Lab):List Lab→Lab
 | []=>[]
 |x::r=>x++r.flatMap fun y=>sep++y
def zaz(xs:List Lab):Nat:=(xs.map List.length).sum
theorem zeI{xs:List Lab}{i:Nat}(h:i<xs.length):zaz (xs.take (i+1))=zaz (xs.take i)+xs[i].length:=by
 unfold zaz;rw[zal h,List.map_append,List.sum_append];simp
theorem zdQ{xs:List Lab}(i:Nat):zaz (xs.take i)≤zaz xs:=by
 have h:=congrArg zaz (List.take_append_drop i xs)
 unfold zaz at*
 rw[List.map_append,List.sum_append]at h
 omega
theorem zff(sep:Lab)(r:List Lab):(r.flatMap fun y=>sep++y).length=sep.length*r.length+zaz r:=by
 induction r with
 |nil=>simp[zaz]
 |cons y r ih=>
  have:zaz (y::r)=y.length+zaz r:=by simp[zaz]
  rw[List.flatMap_cons,List.length_append,List.length_append,ih,List.length_cons,this,Nat.mul_succ];omega
theorem zgY{w:World}{v:Value}{xs:List Lab}(h:Row w v (xs.map vs)){sep:Lab}(hx:xs.length≤1000000)(hs:1≤sep.length)(hs2:sep.length≤1000)(hl:zaz xs≤1000000000):
  Fn Tryz.prog 24 #[v,vs sep] w (fun u w'=>u=vs (zaU sep xs)∧Ext w w'):=by
 obtain⟨a,c,rfl,hc,hg⟩:=h
 rw[List.length_map]at hc
 rw[List.length_map]
 obtain⟨L,hL⟩:∃L,xs.length=L:=⟨_,rfl⟩
 have hgx:∀i (hi:i<xs.length),zad w (adr a i)=some (vs xs[i]):=fun i hi=>by
  have:=hg i (by rw[List.length_map];exact hi)
  rw[List.getElem_map]at this
  exact this
 refine enter Tryz.func24 Tryz.ntmps24 rfl rfl ?_
 by_cases h0:L=0
 ·have hx0:xs=[]:=List.length_eq_zero_iff.1 (by omega)
  subst hx0
  refine go (show decide (((0:Nat):Int)=0)=true from rfl) ?_
  refine rt0 Tryz.ntmps24 ?_
  exact⟨rfl,Keep.refl _ _⟩
 have hL0:0<xs.length:=by omega
 have g0:=hgx 0 hL0
 obtain⟨xa,rfl⟩:=Option.isSome_iff_exists.1 (zap g0)
 rw[zak]at g0
 have d0:decide ((L:Int)=0)=false:=decide_eq_false (by omega)
 have z0:(0:Int)≤0:=by decide
 have zL:(0:Int)<(L:Int):=by omega
 have t0:(0:Int).toNat=0:=rfl
 rw[hL]at hc ⊢
 obtain⟨x,r,hxr⟩:∃x r,xs=x::r:=by
  cases xs with
  |nil=>simp at hL0
  |cons x r=>exact⟨x,r,rfl⟩
 have hx0:xs[0]=x:=by simp only[hxr];rfl
 rw[hx0]at g0
 by_cases h1:L=1
 ·have hr:r=[]:=by rw[hxr]at hL;simp at hL;exact List.length_eq_zero_iff.1 (by omega)
  have d1:decide ((L:Int)=1)=true:=decide_eq_true (by omega)
  refine go (an7 d0 d1 z0 zL t0 zak g0) ?_
  refine zaf (.inr rfl) Tryz.ntmps24 rfl (zac (v:=vs x) (vr0) zae) ?_
  rw[hxr,hr,show zaU sep [x]=x by simp[zaU]]
  exact⟨rfl,Keep.refl _ _⟩
 have d1:decide ((L:Int)=1)=false:=decide_eq_false (by omega)
 obtain⟨M,hM⟩:∃M,sep.length*(L - 1)=M:=⟨_,rfl⟩
 have hM1:M≤1000*1000000:=hM▸Nat.mul_le_mul hs2 (by omega)
 have dS:decide ((0:Int)<(sep.length:Int))=true:=decide_eq_true (by omega)
 have e1:(L:Int) - 1=((L - 1:Nat):Int):=by omega
 obtain⟨q,hq⟩:∃q,9223372036854775807 / (L - 1)=q:=⟨_,rfl⟩
 have hq1:1001≤q:=by rw[←hq,Nat.le_div_iff_mul_le (by omega)];omega
 have hq2:q≤9223372036854775807:=by rw[←hq];exact Nat.div_le_self _ _
 have e2:(9223372036854775807:Int).tdiv ((L - 1:Nat):Int)=(q:Int):=by
  rw[Int.tdiv_eq_ediv_of_nonneg (by omega),←hq,Int.natCast_ediv];rfl
 have nz:¬((L - 1:Nat):Int)=0:=by omega
 have d2:decide ((q:Int)≤(sep.length:Int))=false:=decide_eq_false (by omega)
 have e3:IntKind.i64.wrap ((sep.length:Int)*((L - 1:Nat):Int))=(M:Int):=by
  rw[←Int.natCast_mul,hM]
  exact zby (by omega) (by omega)
 refine go (an8 d0 d1 dS e1 e2 nz d2 e3) ?_
 refine zbq L (fun i σ v=>σ 0= .slice (some xa) L c∧σ 1=vs sep∧σ 5=vi (M+zaz (xs.take i):Nat)∧σ 39= .slice (some xa) L c∧σ 40=vi L∧σ 41=vi i∧w=v) ?_ ?_ ?_
 ·have hM0:(0:Int)+(M:Int)=((M+zaz (xs.take 0):Nat):Int):=by simp[zaz]
  exact⟨vr0,vr0,(vq1 hM0),vr0,vr0,vr0,rfl⟩
 ·rintro i σ v hi p ⟨s0,s1,s5,s39,s40,s41,rfl⟩
  have hi':i<xs.length:=by omega
  have g:=hgx i hi'
  have ht:=zeI hi'
  have hle:=zdQ (xs:=xs) (i+1)
  obtain⟨y,hy⟩:∃y,xs[i]=y:=⟨_,rfl⟩
  rw[hy]at g ht
  obtain⟨N,hN⟩:∃N,M+zaz (xs.take i)=N:=⟨_,rfl⟩
  rw[hN]at s5
  have hN2:M+zaz (xs.take (i+1))=N+y.length:=by omega
  have hi0:(0:Int)≤(i:Int):=by omega
  have hi1:(i:Int)<(L:Int):=by omega
  have hi2:(i:Int)+1=((i+1:Nat):Int):=by push_cast;rfl
  have d3:decide ((9223372036854775807:Int) - (N:Int)<(y.length:Int))=false:=decide_eq_false (by omega)
  have e4:(N:Int)+(y.length:Int)=((N+y.length:Nat):Int):=by omega
  refine go (an9 s0 s1 s5 s39 s40 s41 p g (an4 hi0 hi1 d3 e4)) ?_
  refine⟨rfl,(vq1 s0),(vq1 s1),(vq1 hN2),(vq1 s39),(vq1 s40),(vq1 hi2),rfl⟩
 rintro σ v p ⟨s0,s1,s5,s39,s40,s41,rfl⟩
 have hlt:=zdQ (xs:=xs) L
 refine go (an5 s39 s40 s41 p s0) ?_
 refine zam ?_
 intro w1 hE1 hs1 hA
 refine rc s5 (zie (n:=M+zaz (xs.take L)) hA (by omega)) ?_
 rintro _ w2 ⟨hB2,hk2⟩
 have hEv:Ext w w2:=Keep.to_ext hE1 rfl (fun b hb=>by omega) hk2
 have hs2':=hk2.size
 have g2:=zab hEv g0
 have hlx:zaz xs=x.length+zaz r:=by rw[hxr];simp[zaz]
 have hrL:r.length=L - 1:=by rw[hxr]at hL;simp at hL;omega
 refine rgo s0 ?_
 refine rc (an7 s0 z0 zL t0 zak g2 s1) (zay (s:=x) hB2 (by omega) (by simp;omega)) ?_
 rintro _ w3 ⟨hB3,hk3⟩
 have hE3:Ext w w3:=Keep.to_ext hEv rfl (fun b hb=>by omega) hk3
 have hs3:=hk3.size
 obtain⟨y1,hy1⟩:∃y1,adr (some xa) 1=some y1:=⟨_,rfl⟩
 have z1:(0:Int)≤1:=by decide
 have zl1:(1:Int)≤(L:Int):=by omega
 have t1:(1:Int).toNat=1:=rfl
 have hce:(if c=1 then some xa else some y1)=some y1:=if_neg (by omega)
 refine rgo (an7 s0 s1 z1 zl1 t1 hce hy1) ?_
 have hjl:=zff sep
 have hsr:sep.length*r.length=M:=by rw[hrL,hM]
 refine zbq (L - 1) (fun i σ v=>σ 1=vs sep∧σ 8= .pointer (some ⟨w.heap.size,0,Option.none⟩)∧σ 63= .slice (some y1) (L - 1) (c - 1)∧σ 64=vi (L - 1:Nat)∧σ 65=vi i∧Ext w v∧w1.heap.size≤v.heap.size∧Bld w1.heap.size v w.heap.size (x++(r.take i).flatMap fun y=>sep++y)) ?_ ?_ ?_
 ·exact⟨(vq1 s1),vr0,vr0,vr0,vr0,hE3,by omega,by simpa using hB3⟩
 ·rintro i σ v hi p ⟨s1,s8,s63,s64,s65,hE,hsv,hB⟩
  have hir:i<r.length:=by omega
  have g:=zab hE (hgx (i+1) (by omega))
  have hxi:xs[i+1]'(by omega)=r[i]:=by simp only[hxr];rfl
  rw[hxi]at g
  have g':zad v (adr (some y1) i)=some (vs r[i]):=by rw[←hy1,zdw,Nat.add_comm];exact g
  have hi0:(0:Int)≤(i:Int):=by omega
  have hi1:(i:Int)<((L - 1:Nat):Int):=by omega
  have hi2:(i:Int)+1=((i+1:Nat):Int):=by push_cast;rfl
  have hlr:zaz (r.take i)≤zaz r:=zdQ i
  have hri:r[i].length≤zaz r:=by
   have h1:=zeI hir
   have h2:=zdQ (xs:=r) (i+1)
   omega
  have hfl:=hjl (r.take i)
  have htl:(r.take i).length=i:=by rw[List.length_take];omega
  have hsi:sep.length*i≤M:=by rw[←hM];exact Nat.mul_le_mul_left _ (by omega)
  rw[htl]at hfl
  refine go (an9 s1 s8 s63 s64 s65 p g' hi0 hi1) ?_
  refine rc (an2 s1 s8) (zay (s:=sep) hB hsv (by simp only[List.length_append];omega)) ?_
  rintro _ v1 ⟨hB1,hk1⟩
  have hsv1:=hk1.size
  refine rgo trivial ?_
  refine rc (an2 s1 s8) (zay (s:=r[i]) hB1 (by omega) (by simp only[List.length_append];omega)) ?_
  rintro _ v2 ⟨hB2',hk2'⟩
  have hsv2:=hk2'.size
  refine rgo (an5 s1 s8 s63 s64 (an2 s65 hi2)) ?_
  refine⟨rfl,(vq1 s1),(vq1 s8),(vq1 s63),(vq1 s64),(vq1 hi2),Keep.to_ext hE rfl (fun b hb=>by omega) (hk1.trans hk2'),by omega,?_⟩
  rw[zal hir,List.flatMap_append,List.flatMap_singleton]
  simpa [List.append_assoc] using hB2'
 ·rintro σ v p ⟨s1,s8,s63,s64,s65,hE,hsv,hB⟩
  rw[←hrL,List.take_length]at hB
  have hfl:=hjl r
  refine go (an4 s63 s64 s65 p) ?_
  refine rc s8 (zb3 hB (by simp only[List.length_append];omega)) ?_
  rintro _ v1 ⟨rfl,hk1⟩
  refine rgo trivial ?_
  refine rt0 Tryz.ntmps24 ?_
  rw[hxr]
  exact⟨rfl,Keep.to_ext hE rfl (fun b hb=>by omega) hk1⟩
theorem i_str0(k:IntKind)(c:UInt8)(r:Lab):ixSD (some .string) (vs (c::r)) (.int k 0)=some (.int .u8 c.toNat):=(zhU (Int.le_refl _) (by simp)).trans rfl
attribute [go_sem] i_str0
section
variable {P : Program} {d : Option Tmp} {ty : TypeId} {ps : String} {af : Array Edge} {g : Option (Nat × Bool)} {ρ : Operand → Value} {w : World} {K : Value → World → Prop}
theorem zc3(alt:Prop)(m:Lck K alt):optL Option.none w K alt m=alt:=rfl
theorem ze6{t yt:TypeId}{x:Operand}{u:Value}{b:Bool}(ht:P.underlying t=some (.interface (P.methodsAt t)))(hu:(u= .nilIface∧b=false)∨((∃k p,u= .iface k p)∧b=true))(hx:ρ x=u)(hn:ρ (.const .nilIface)= .nilIface)(h:K (.bool b) w):
  opW P ⟨d,.binOp .neq t x (.const .nilIface) yt,ty,ps,af,g⟩ ρ w K:=by
 have hr:(do eqGuard .neq t x (.const .nilIface) u .nilIface;binOp .neq t u .nilIface:Sem Value).run P w= .ok (.bool b) w:=by
  rcases hu with ⟨rfl,rfl⟩| ⟨⟨k,p,rfl⟩,rfl⟩
  ·simp[Sem.run,eqGuard,run_neq_nil_nil w t ht]
  ·simp[Sem.run,eqGuard,run_neq_held_nil w t k p ht]
 have:=zaw (P:=P) (K:=K) hr h
 rw[←hx,←hn]at this
 exact this
end
theorem zhX(c:UInt8)(r:Lab):zf8 (c::r)=((c::r).all digB && !(decide (c=48) && !decide (r=[]))):=by
 unfold zf8
 cases r with
 |nil=>simp
 |cons a r=>by_cases h:c=48<;>simp[h]
theorem zbh{w:World}(hW:WX w)(s:Lab)(most:Nat)(hm:most≤4294967296)(hs:s.length≤1000000000):
  Fn Tryz.prog 132 #[vs s,.int .u64 most] w (fun v w'=>v= .tuple #[.int .u64 (decP most s).1,vi (decP most s).2]∧Ext w w'):=by
 refine enter Tryz.func132 Tryz.ntmps132 rfl rfl ?_
 refine go trivial ?_
 refine zav (Q:=fun e σ ds v=>e= .normal∧ds=[]∧σ 0=vs s∧σ 1= .int .u64 most∧σ 23= .bool (!zf8 s)∧Ext w v) ?_ ?_
 ·by_cases h0:s=[]
  ·subst h0
   refine rgg [(2,10),(7,15),(11,19)] trivial ?_
   exact⟨rfl,rfl,vr0,vr0,vr0,Keep.refl _ _⟩
  obtain⟨c,r,rfl⟩:=List.exists_cons_of_ne_nil h0
  rw[zhX]
  have d0:decide (c::r=[])=false:=decide_eq_false h0
  refine rcg [(2,10),(7,15),(11,19)] d0 (zjS w (c::r) h0 (by omega)) ?_
  rintro _ w1 ⟨rfl,hE1⟩
  by_cases hd:(c::r).all digB=true
  ·have d1:decide (Lib.trimS (c::r) digs10=[])=true:=decide_eq_true ((zfH _).2 hd)
   rw[hd]
   by_cases h48:c=48
   ·have d2:decide ((c.toNat:Int)=48)=true:=by subst h48;rfl
    have d3:decide (c::r=[48])=decide (r=[]):=by subst h48;simp
    rw[decide_eq_true h48,show(!(true && !(true && !decide (r=[]))))=!decide (r=[]) by cases decide (r=[])<;>rfl]
    refine reg [(2,10),(7,15),(11,19)] (an4 d1 d0 d2 d3) ?_
    exact⟨rfl,rfl,vr0,vr0,vr0,hE1⟩
   have d2:decide ((c.toNat:Int)=48)=false:=decide_eq_false fun h=>h48 (UInt8.toNat_inj.1 (by have:(48:UInt8).toNat=48:=rfl;omega))
   rw[decide_eq_false h48]
   refine reg [(2,10),(7,15),(11,19)] (an3 d1 d0 d2) ?_
   exact⟨rfl,rfl,vr0,vr0,vr0,hE1⟩
  have d1:decide (Lib.trimS (c::r) digs10=[])=false:=decide_eq_false fun h=>hd ((zfH _).1 h)
  simp only[Bool.not_eq_true]at hd
  rw[hd]
  refine reg [(2,10),(7,15),(11,19)] (an2 d1 d0) ?_
  exact⟨rfl,rfl,vr0,vr0,vr0,hE1⟩
 rintro _ σ _ w1 ⟨rfl,rfl,h0,h1,h23,hE1⟩
 unfold decP
 cases hf:zf8 s with
 |false=>
  rw[hf]at h23
  refine go (an3 h0 h1 h23) ?_
  refine zaf (.inr rfl) Tryz.ntmps132 rfl (zac (vr0) (zac (vr0) zae)) ?_
  exact⟨rfl,hE1⟩
 |true=>
  rw[hf]at h23
  have hne:s≠ []:=fun h=>by subst h;cases hf
  have had:s.all digB=true:=by
   unfold zf8 at hf
   simp only[Bool.and_eq_true]at hf
   exact hf.2.1
  refine go (an3 h0 h1 h23) ?_
  refine rc (an2 h0 h1) (zgq (hW.ext hE1) s hne had hs) ?_
  rintro v w2 ⟨hv,hE2⟩
  by_cases hb:valD s≤18446744073709551615
  ·rw[if_pos hb]at hv
   subst hv
   refine re (an2 h0 h1) ?_
   refine go (an2 h0 h1) ?_
   by_cases hle:valD s≤most
   ·have d1:decide ((most:Int)<(valD s:Int))=false:=decide_eq_false (by omega)
    simp only[if_true,if_pos hle]
    refine rq ?_;intro gd K hgd hK
    have hg2:∀n σ b,zaJ gd n σ (some (2,b))=zat (ev n σ (.tmp 31)) b:=(fun n σ b=>by rw[zag,show gd 2=some 31 from(by rw[hgd];rfl)];rfl)
    try simp only[go_sem]
    rw[show binV Tryz.prog .neq 100 .nilIface .nilIface=Option.none from rfl,zc3]
    refine ze6 (u:= .nilIface) (b:=false) (by kernel_rfl) (.inl ⟨rfl,rfl⟩) (vr0) rfl ?_
    try simp (disch:=first|omega|assumption|rfl) only[go_sem,h1,d1,↓hg2]
    refine hK _ _ ?_;clear hK hgd;clear K;try clear gd
    refine go d1 ?_
    refine zaf (.inr rfl) Tryz.ntmps132 rfl (zac (vr0) (zac (vr0) zae)) ?_
    exact⟨rfl,hE1.trans hE2⟩
   ·have d1:decide ((most:Int)<(valD s:Int))=true:=decide_eq_true (by omega)
    simp only[if_true,if_neg hle]
    refine rq ?_;intro gd K hgd hK
    have hg2:∀n σ b,zaJ gd n σ (some (2,b))=zat (ev n σ (.tmp 31)) b:=(fun n σ b=>by rw[zag,show gd 2=some 31 from(by rw[hgd];rfl)];rfl)
    try simp only[go_sem]
    rw[show binV Tryz.prog .neq 100 .nilIface .nilIface=Option.none from rfl,zc3]
    refine ze6 (u:= .nilIface) (b:=false) (by kernel_rfl) (.inl ⟨rfl,rfl⟩) (vr0) rfl ?_
    try simp (disch:=first|omega|assumption|rfl) only[go_sem,h1,d1,↓hg2]
    refine hK _ _ ?_;clear hK hgd;clear K;try clear gd
    refine go d1 ?_
    refine zaf (.inr rfl) Tryz.ntmps132 rfl (zac (vr0) (zac (vr0) zae)) ?_
    exact⟨rfl,hE1.trans hE2⟩
  ·rw[if_neg hb]at hv
   obtain⟨n,t,p,rfl⟩:=hv
   refine re (an2 h0 h1) ?_
   refine go (an2 h0 h1) ?_
   simp only[if_true,if_neg (show¬valD s≤most by omega)]
   refine rq ?_;intro gd K hgd hK
   have hg2:∀n σ b,zaJ gd n σ (some (2,b))=zat (ev n σ (.tmp 31)) b:=(fun n σ b=>by rw[zag,show gd 2=some 31 from(by rw[hgd];rfl)];rfl)
   try simp only[go_sem]
   rw[show binV Tryz.prog .neq 100 (.iface t p) .nilIface=Option.none from rfl,zc3]
   refine ze6 (u:= .iface t p) (b:=true) (by kernel_rfl) (.inr ⟨⟨_,_,rfl⟩,rfl⟩) (vr0) rfl ?_
   try simp (disch:=first|omega|assumption|rfl) only[go_sem,h1,↓hg2]
   refine hK _ _ ?_;clear hK hgd;clear K;try clear gd
   refine go trivial ?_
   refine zaf (.inr rfl) Tryz.ntmps132 rfl (zac (vr0) (zac (vr0) zae)) ?_
   exact⟨rfl,hE1.trans hE2⟩
theorem zej{w:World}{a:Addr}:∀(i m k:Nat) {l:List Value},zaG w a i (m+k)=some l→zaG w a i m=some (l.take m)
 |i,0,k,l,h=>by simp[zaG]
 |i,m+1,k,l,h=>by
  rw[show m+1+k=(m+k)+1 from by omega]at h
  unfold zaG at h ⊢
  split at h
  ·rename_i v l' h1 h2
   cases h
   rw[h1,zej (i+1) m k h2];rfl
  ·cases h
theorem zeN{w:World}{p:Option Addr}{m k:Nat}{l:List Value}(h:zaq w p (m+k)=some l):zaq w p m=some (l.take m):=by
 cases p with
 |none=>cases h
 |some a=>exact zej 0 m k h
section
variable {P : Program} {w : World} {K : Value → World → Prop} {t : TypeId} {p v : Value} {A B : Obj}
theorem st_al1(h:∀z,Ext w z→z.heap.size=w.heap.size+1→z.heap[w.heap.size]? =some A→stK P t p v z K):stK P t p v (w.alloc A) K:=
 h _ (Ext.alloc w A) (zaB w A) (World.alloc_heap_new w A)
theorem st_al2(h:∀z,Ext w z→z.heap.size=w.heap.size+2→z.heap[w.heap.size]? =some A→z.heap[w.heap.size+1]? =some B→stK P t p v z K):stK P t p v ((w.alloc A).alloc B) K:=by
 obtain⟨h1,h2,h3,h4⟩:=zcr w A B
 exact h _ h1 h2 h3 h4
end
section
variable {P : Program} {d : Option Tmp} {ty : TypeId} {ps : String} {af : Array Edge} {g : Option (Nat × Bool)} {ρ : Operand → Value} {w : World} {K : Value → World → Prop}
end
def zci(a b d:Int):Bool:=decide (0≤a) && (decide (a≤b) && (decide (b≤2147483647) && decide (1≤d)))
theorem zha(w:World)(a b d:Int):Fn Tryz.prog 145 #[.agg #[vi a,vi b,vi d]] w (fun v w'=>v= .bool (zci a b d)∧Ext w w'):=by
 refine enter Tryz.func145 Tryz.ntmps145 rfl rfl ?_
 refine go trivial ?_
 refine zam ?_
 intro w1 hE1 hs1 hA
 have c0:zad w1 (some ⟨w.heap.size,0,Option.none⟩)=some (vi a):=zaa hA rfl
 have c1:zad w1 (some ⟨w.heap.size,1,Option.none⟩)=some (vi b):=zaa hA rfl
 have c2:zad w1 (some ⟨w.heap.size,2,Option.none⟩)=some (vi d):=zaa hA rfl
 unfold zci
 by_cases h1:0≤a
 ·by_cases h2:a≤b
  ·by_cases h3:b≤2147483647
   ·rw[decide_eq_true h1,decide_eq_true h2,decide_eq_true h3]
    refine rgg [(3,6),(10,13),(15,18)] (an8 c0 c1 c2 (decide_eq_true h1) (decide_eq_true h2) (decide_eq_true h3) (Nat.zero_add 1) (Nat.zero_add 2)) ?_
    refine go trivial ?_
    refine rt0 Tryz.ntmps145 ?_
    exact⟨rfl,hE1⟩
   ·rw[decide_eq_true h1,decide_eq_true h2,decide_eq_false h3]
    refine rgg [(3,6),(10,13),(15,18)] (an8 c0 c1 c2 (decide_eq_true h1) (decide_eq_true h2) (decide_eq_false h3) (Nat.zero_add 1) (Nat.zero_add 2)) ?_
    refine go trivial ?_
    refine rt0 Tryz.ntmps145 ?_
    exact⟨rfl,hE1⟩
  ·rw[decide_eq_true h1,decide_eq_false h2]
   refine rgg [(3,6),(10,13),(15,18)] (an7 c0 c1 c2 (decide_eq_true h1) (decide_eq_false h2) (Nat.zero_add 1) (Nat.zero_add 2)) ?_
   refine go trivial ?_
   refine rt0 Tryz.ntmps145 ?_
   exact⟨rfl,hE1⟩
 ·rw[decide_eq_false h1]
  refine rgg [(3,6),(10,13),(15,18)] (an6 c0 c1 c2 (decide_eq_false h1) (Nat.zero_add 1) (Nat.zero_add 2)) ?_
  refine go trivial ?_
  refine rt0 Tryz.ntmps145 ?_
  exact⟨rfl,hE1⟩
end Go.Proofs.YtihbdhjibplldaaGreatDoor
