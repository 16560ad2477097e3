/-
  Texts of a proof, joined: B0, L9, R4, GA, GB, GC, GD, K27, KC, KN, K32, GE, GF, HC, K25, HA, HD, GG, K28, GH, GI, GJ, GK, GL, GM, GN, GO, GP, HE, L2.
  Conditions: none.
-/
import Derived.Test.YtanmnkbccfcagaaGreatDoorQCC02
import Derived.Test.YtanmnkbccfcagaaGreatDoorProg
import Derived.Shelf.LaysM
import Derived.Ground.MpProg
import Derived.Shelf.Strings.Cut
import Derived.Shelf.Strings.SlTrimAscii
import Derived.Shelf.Pu.ErrVarParseUint
import Derived.Shelf.Strings.Prefix
import Derived.Shelf.Small.Wraps
import Derived.Shelf.Strings.Split
import Derived.Shelf.Strconv.Itoa4
import Derived.Shelf.Bits.Mul64
import Derived.Lib.IndexMore
import Derived.Lib.ItoaNum
import Derived.Test.YtanmnkbccfcagaaGreatDoorQCC01
import Derived.ProofKit
import Derived.OpenShut
import Derived.SizedLaws
import Derived.Deep.Slices
import Derived.Lib.LaidTab
import Derived.Lib.ConvBytes
import Derived.Lib.BufferWrite
import Derived.Deep.WholeRow
import Derived.WalkKit
import Derived.Lib.MakeNoZero
import Derived.Lib.AppendIntMem
import Derived.Shelf.Small.Strs
import Derived.Shelf.Strings.Builder1
set_option linter.unusedVariables false
set_option linter.unusedSimpArgs false
set_option linter.defProp false
set_option linter.unnecessarySimpa false
set_option maxHeartbeats 8000000
namespace Go.Proofs.YtanmnkbccfcagaaGreatDoor
open Go
set_option maxRecDepth 10000
structure Bld(B:Nat)(w:World)(b:Nat)(bs:List UInt8):Prop where
 ex:∃p v,(p= .pointer Option.none∨p= .pointer (some ⟨b,0,Option.none⟩))∧w.heap[b]? =some (.cells #[p,v] 106 (0,0))∧Own B w 5 v (bs.map zab)
theorem zde{B:Nat}{w:World}{e:TypeId}{v:Value}{l:List Value}(h:Own B w e v l){b:Nat}(hb:some b=v.ownBlock):∃cur fr,w.heap[b]? =some (.cells cur e fr):=by
 rcases h.2 with ⟨rfl,_⟩| ⟨g,cap,cur,rfl,_,hg,_⟩
 ·cases hb
 ·cases hb;exact⟨_,_,hg⟩
theorem ziA{B:Nat}{w:World}{v p:Value}{l:List Value}{b:Nat}(h:Own B w 5 v l)(hb:w.heap[b]? =some (.cells #[p,v] 106 (0,0))):some b≠v.ownBlock:=fun he=>by
 obtain⟨cur,fr,h1⟩:=zde h he
 rw[hb]at h1
 injection h1 with h1
 injection h1 with _ h2
 revert h2;decide
theorem ze2(l:List UInt8):∀q∈l.map zab,one q=true:=fun q hq=>by
 obtain⟨c,_,rfl⟩:=List.mem_map.1 hq;rfl
theorem zbx{w:World}{b:Nat}{p v:Value}(hp:p= .pointer Option.none∨p= .pointer (some ⟨b,0,Option.none⟩))(hb:w.heap[b]? =some (.cells #[p,v] 106 (0,0))):
  Fn Tryz.prog 120 #[.pointer (some ⟨b,0,Option.none⟩)] w (fun _ w'=>w'.heap[b]? =some (.cells #[.pointer (some ⟨b,0,Option.none⟩),v] 106 (0,0))∧Keep (fun i=>i=b) w w'∧w'.heap.size=w.heap.size):=by
 have c0:zag w (some ⟨b,0,Option.none⟩)=some p:=zad hb rfl
 obtain⟨j,hj,hjs⟩:∃j,Tryz.prog.info? 106=some j∧j.size≠0:=by
  have:(Tryz.prog.info? 106).map (·.size)=some 2:=by kernel_rfl
  obtain⟨j,h1,h2⟩:=Option.map_eq_some_iff.1 this
  exact⟨j,h1,by rw[h2];decide⟩
 rcases hp with rfl|rfl
 ·refine enter Tryz.func120 Tryz.ntmps120 rfl rfl ?_
  repeat refine c_r ?_
  refine rq ?_;intro gd K hgd hK
  try simp (disch:=first|omega|assumption|rfl) only[go_sem,c0,Nat.add_zero]
  refine hK _ _ ?_;clear hK hgd;clear K;try clear gd
  repeat refine c_r ?_
  refine wc0 ?_ ?_
  ·intro _
   have hsh:w.shape? b=some (106,2):=by simp[World.shape?,hb]
   repeat refine c_r ?_
   refine rq ?_;intro gd K hgd hK
   try simp only[go_sem]
   refine zhU (by rfl) (Lib.run_to_unsafe w ⟨b,0,Option.none⟩ (by rfl) (by rfl) hj hjs hsh (Nat.zero_lt_succ 1)) ?_
   try simp only[go_sem]
   refine⟨.pointer (some ⟨b,0,Option.none⟩),w,?_,?_⟩
   ·rw[run_callFunc_extern (show Tryz.prog.funcs[189]? =_ from Tryz.func189) (by kernel_rfl) (by kernel_rfl) (by kernel_rfl) (e:=Extern.AbiNoEscape.same) (by kernel_rfl)]
    rw[Lib.run_noEscape]
    rfl
   try simp only[go_sem]
   refine zhU (by rfl) (Lib.run_from_unsafe w ⟨b,0,Option.none⟩ (by rfl) (by rfl) hj hsh (by kernel_rfl)) ?_
   try simp only[go_sem]
   refine zdq (P:=Tryz.prog) (t:=104) (j:=0) (l:=[.pointer Option.none,v]) hb (by simp) rfl rfl rfl ?_
   intro w1 hs1 hb1 hk1
   try simp only[go_sem]
   refine hK _ _ ?_;clear hK hgd;clear K;try clear gd
   repeat refine c_r ?_
   exact zar (by simp) rfl ⟨by simpa using hb1,hk1,hs1⟩
  ·intro h;cases h
 ·refine enter Tryz.func120 Tryz.ntmps120 rfl rfl ?_
  repeat refine c_r ?_
  refine rq ?_;intro gd K hgd hK
  try simp (disch:=first|omega|assumption|rfl) only[go_sem,c0,Nat.add_zero]
  refine hK _ _ ?_;clear hK hgd;clear K;try clear gd
  repeat refine c_r ?_
  refine wc0 ?_ ?_
  ·intro h;cases h
  intro _
  repeat refine c_r ?_
  refine rq ?_;intro gd K hgd hK
  try simp (disch:=first|omega|assumption|rfl) only[go_sem,c0,Nat.add_zero]
  refine ze5 (by rfl) hj (by rfl) (by rfl) ?_
  try simp only[go_sem]
  refine hK _ _ ?_;clear hK hgd;clear K;try clear gd
  repeat refine c_r ?_
  refine wc0 ?_ ?_
  ·intro h;cases h
  intro _
  repeat refine c_r ?_
  exact zar (by simp) rfl ⟨hb,Keep.refl _ _,rfl⟩
theorem zaN{B:Nat}{w:World}{b:Nat}{bs s:List UInt8}(h:Bld B w b bs)(hB:B≤w.heap.size)(hlen:bs.length+s.length≤100000000000):
  Fn Tryz.prog 57 #[.pointer (some ⟨b,0,Option.none⟩),vs s] w (fun _ w'=>Bld B w' b (bs++s)∧Keep (fun i=>i=b∨B≤i) w w'):=by
 obtain⟨p,v,hp,hb,hown⟩:=h.ex
 have hne:=ziA hown hb
 obtain⟨inf,hi,hz,hsz,hby⟩:=info_parts (P:=Tryz.prog) (e:=5) (z:= .int .u8 0) (size:=1) (bytes:=1) (by kernel_rfl)
 refine enter Tryz.func57 Tryz.ntmps57 rfl rfl ?_
 repeat refine c_r ?_
 refine rg0 ?_
 repeat refine c_r ?_
 refine rq ?_;intro gd K hgd hK
 try simp only[go_sem]
 refine Fn.mono (zbx hp hb) ?_
 rintro _ w1 ⟨hb1,hk1,hs1⟩
 try simp only[go_sem]
 refine hK _ _ ?_;clear hK hgd;clear K;try clear gd
 have hown1:=hown.keep hk1 (fun i hi he=>hne (he▸hi))
 have c1:zag w1 (some ⟨b,1,Option.none⟩)=some v:=zad hb1 rfl
 repeat refine c_r ?_
 refine rq ?_;intro gd K hgd hK
 try simp (disch:=first|omega|assumption|rfl) only[go_sem,c1,Nat.zero_add]
 refine op_appS hown1 (by rfl) (by rfl) hi hz hsz hby (by rfl) (by rfl) (by simpa using hlen) (by omega) ?_
 intro v2 w2 hown2 hk2
 try simp only[go_sem]
 have hb2:=(hk2.block b (Array.getElem?_eq_some_iff.1 hb1).1 hne).trans hb1
 have hne2:some b≠v2.ownBlock:=fun he=>by
  obtain⟨cur,fr,h1⟩:=zde hown2 he
  rw[hb2]at h1
  injection h1 with h1
  injection h1 with _ h2
  revert h2;decide
 obtain⟨a2,c2,hv2⟩:=hown2.slice
 refine zdq (P:=Tryz.prog) (t:=31) (j:=1) (l:=[.pointer (some ⟨b,0,Option.none⟩),v]) hb2 (by simp) (by rw[hv2];rfl) rfl rfl ?_
 intro w3 hs3 hb3 hk3
 try simp only[go_sem]
 refine hK _ _ ?_;clear hK hgd;clear K;try clear gd
 have hown3:=hown2.keep hk3 (fun i hi he=>hne2 (he▸hi))
 repeat refine c_r ?_
 refine rg0 ?_
 repeat refine c_r ?_
 refine zaf (.inr rfl) Tryz.ntmps57 rfl (zac rfl (zac rfl zae)) ?_
 refine⟨⟨⟨_,v2,.inr rfl,by simpa using hb3,by rw[List.map_append];exact hown3⟩⟩,?_⟩
 exact((hk1.mono (fun i _ h=> .inl h)).trans (hk2.mono (fun i _ h=> .inr (hown1.ge h).1))).trans (hk3.mono (fun i _ h=> .inl h))
theorem zaL{B:Nat}{w:World}{b:Nat}{bs:List UInt8}{c:UInt8}(h:Bld B w b bs)(hB:B≤w.heap.size)(hlen:bs.length+1≤100000000000):
  Fn Tryz.prog 80 #[.pointer (some ⟨b,0,Option.none⟩),zab c] w (fun _ w'=>Bld B w' b (bs++ [c])∧Keep (fun i=>i=b∨B≤i) w w'):=by
 obtain⟨p,v,hp,hb,hown⟩:=h.ex
 have hne:=ziA hown hb
 refine enter Tryz.func80 Tryz.ntmps80 rfl rfl ?_
 repeat refine c_r ?_
 refine rg0 ?_
 repeat refine c_r ?_
 refine rq ?_;intro gd K hgd hK
 try simp only[go_sem]
 refine Fn.mono (zbx hp hb) ?_
 rintro _ w1 ⟨hb1,hk1,hs1⟩
 try simp only[go_sem]
 refine hK _ _ ?_;clear hK hgd;clear K;try clear gd
 have hown1:=hown.keep hk1 (fun i hi he=>hne (he▸hi))
 have c1:zag w1 (some ⟨b,1,Option.none⟩)=some v:=zad hb1 rfl
 repeat refine c_r ?_
 refine rq ?_;intro gd K hgd hK
 try simp (disch:=first|omega|assumption|rfl) only[go_sem,c1,Nat.zero_add]
 refine zbE (z:= .int .u8 0) (v:=zab c) (by rfl) (by rfl) (by rfl) (by rfl) (by rfl) ?_
 intro x1 hX1 hXs hXo
 try simp only[go_sem]
 refine zbi (B:=B) (hown1.ext hX1) hXo.row (by rfl) (by rfl) (by rfl) (by rfl) (by rfl) (by rfl) (by rfl) (by rfl) (ze2 [c]) (by simp;omega) (by decide) (by have:=hX1.size;omega) ?_
 intro v2 w2 hown2 _ hk2 hfr
 try simp only[go_sem]
 have hb2:=(hk2.block b (by have:=(Array.getElem?_eq_some_iff.1 hb1).1;have:=hX1.size;omega) hne).trans (Ext.at hX1 hb1)
 have hne2:some b≠v2.ownBlock:=fun he=>by
  obtain⟨cur,fr,h1⟩:=zde hown2 he
  rw[hb2]at h1
  injection h1 with h1
  injection h1 with _ h2
  revert h2;decide
 obtain⟨a2,c2,hv2⟩:=hown2.slice
 refine zdq (P:=Tryz.prog) (t:=31) (j:=1) (l:=[.pointer (some ⟨b,0,Option.none⟩),v]) hb2 (by simp) (by rw[hv2];rfl) rfl rfl ?_
 intro w3 hs3 hb3 hk3
 try simp only[go_sem]
 refine hK _ _ ?_;clear hK hgd;clear K;try clear gd
 have hown3:=hown2.keep hk3 (fun i hi he=>hne2 (he▸hi))
 repeat refine c_r ?_
 refine rg0 ?_
 repeat refine c_r ?_
 refine zaf (.inr rfl) Tryz.ntmps80 rfl (zac rfl zae) ?_
 refine⟨⟨⟨_,v2,.inr rfl,by simpa using hb3,by rw[List.map_append];exact hown3⟩⟩,?_⟩
 exact(((hk1.mono (fun i _ h=> .inl h)).trans (hX1.mono (fun i _ h=>h.elim))).trans (hk2.mono (fun i _ h=> .inr (hown1.ge h).1))).trans (hk3.mono (fun i _ h=> .inl h))
theorem zcg(w:World)(p:Addr)(n:Nat):Keep (fun i=>i=p.block) w (w.freeze p n):=by
 unfold World.freeze
 split
 ·exact Keep.refl _ _
 ·exact⟨rfl,rfl,rfl,by simp,fun k hk hne=>by
   simp only[Array.getElem?_modify]
   rw[if_neg (fun h=>hne h.symm)],Nat.le_refl _⟩
theorem zbW{B:Nat}{w:World}{b:Nat}{bs:List UInt8}(h:Bld B w b bs)(hlen:bs.length≤100000000000):
  Fn Tryz.prog 64 #[.pointer (some ⟨b,0,Option.none⟩)] w (fun v w'=>v=vs bs∧Keep (fun i=>B≤i) w w'):=by
 obtain⟨p,v,hp,hb,hown⟩:=h.ex
 rcases hown.2 with ⟨rfl,hl⟩| ⟨g,cap,cur,rfl,hgB,hg,hn,hcap,hcs,hx⟩
 ·have h0:bs=[]:=by simpa using hl
  subst h0
  refine enter Tryz.func64 Tryz.ntmps64 rfl rfl ?_
  repeat refine c_r ?_
  refine rg0 ?_
  repeat refine c_r ?_
  refine zaU (fun _=>false) [(0,true),(1,true),(2,true),(3,true),(5,true),(6,true),(7,true),(8,true),(9,true),(4,false),(10,false),(11,true)] NoS mixed (by kernel_rfl) ?_;intro gd K x hgd hx hxe hK;have hx0:=za0 hxe;clear hxe
  have c1:zag x (some ⟨b,1,Option.none⟩)=some (.slice Option.none 0 0):=zad (Ext.at hx0 hb) rfl
  simp (disch:=first|omega|assumption|rfl) only[go_sem,c1,Nat.zero_add]
  refine zaP (u:= .slice Option.none 0 0) (vq0) (Lib.run_unsafeSliceData_nil _ _ _ _ _) ?_
  refine⟨.inr (Keep.refl _ _),?_⟩
  refine zau (u:= .pointer Option.none) (z:=vi 0) (vq0) (vr0) (Lib.run_unsafeString_none (P:=Tryz.prog) _ _ _ _ _) ?_
  refine⟨.inr (Keep.refl _ _),?_⟩
  refine hK _ _ ?_;clear hK hgd;clear K;try clear gd
  repeat refine c_r ?_
  refine zaf (.inr rfl) Tryz.ntmps64 rfl (zac (vr0) zae) ?_
  exact⟨rfl,hx0.mono (fun i _ h=>h.elim)⟩
 by_cases h0:bs=[]
 ·subst h0
  refine enter Tryz.func64 Tryz.ntmps64 rfl rfl ?_
  repeat refine c_r ?_
  refine rg0 ?_
  repeat refine c_r ?_
  refine zaU (fun _=>false) [(0,true),(1,true),(2,true),(3,true),(5,true),(6,true),(7,true),(8,true),(9,true),(4,false),(10,false),(11,true)] NoS mixed (by kernel_rfl) ?_;intro gd K x hgd hx hxe hK;have hx0:=za0 hxe;clear hxe
  have c1:zag x (some ⟨b,1,Option.none⟩)=some (.slice (some ⟨g,0,Option.none⟩) 0 cap):=zad (Ext.at hx0 hb) rfl
  have hgx:=Ext.at hx0 hg
  simp (disch:=first|omega|assumption|rfl) only[go_sem,c1,Nat.zero_add]
  by_cases hc0:cap=0
  ·subst hc0
   refine zaP (u:= .slice (some ⟨g,0,Option.none⟩) 0 0) (vq0) (Lib.run_unsafeSliceData_zero (P:=Tryz.prog) _ _ _ 5 (by rfl) _ _ _ (by simp only[World.shape?,hgx];rfl)) ?_
   refine⟨.inr (Ext.alloc x _),?_⟩
   refine zau (u:= .pointer (some ⟨x.heap.size,0,Option.none⟩)) (z:=vi 0) (vq0) (vr0) (Lib.run_unsafeString_none (P:=Tryz.prog) _ _ _ _ _) ?_
   refine⟨.inr (Keep.refl _ _),?_⟩
   refine hK _ _ ?_;clear hK hgd;clear K;try clear gd
   repeat refine c_r ?_
   refine zaf (.inr rfl) Tryz.ntmps64 rfl (zac (vr0) zae) ?_
   exact⟨rfl,(hx0.trans (Ext.alloc x _)).mono (fun i _ h=>h.elim)⟩
  ·refine zaP (u:= .slice (some ⟨g,0,Option.none⟩) 0 cap) (vq0) (Lib.run_unsafeSliceData_row _ _ _ _ _ _ hc0) ?_
   refine⟨.inr (Keep.refl _ _),?_⟩
   refine zau (u:= .pointer (some ⟨g,0,Option.none⟩)) (z:=vi 0) (vq0) (vr0) (Lib.run_unsafeString_none (P:=Tryz.prog) _ _ _ _ _) ?_
   refine⟨.inr (Keep.refl _ _),?_⟩
   refine hK _ _ ?_;clear hK hgd;clear K;try clear gd
   repeat refine c_r ?_
   refine zaf (.inr rfl) Tryz.ntmps64 rfl (zac (vr0) zae) ?_
   exact⟨rfl,hx0.mono (fun i _ h=>h.elim)⟩
 simp only[List.length_map,Nat.mul_one]at hn hx hb hcs
 have hlen0:0<bs.length:=List.length_pos_iff.2 h0
 refine enter Tryz.func64 Tryz.ntmps64 rfl rfl ?_
 repeat refine c_r ?_
 refine rg0 ?_
 repeat refine c_r ?_
 have hbg:b≠g:=fun he=>by
  subst he
  rw[hb]at hg
  injection hg with hg
  injection hg with _ h2
  revert h2;decide
 have hc0:cap≠0:=by omega
 refine zaU (fun _=>false) [(0,true),(1,true),(2,true),(3,true),(5,true),(6,true),(7,true),(8,true),(9,true),(4,false),(10,false),(11,true)] ((fun i=>i=g)) mixed (by kernel_rfl) ?_;intro gd K x hgd hx hxe hK;have hx0:=za0 hxe;clear hxe
 have c1:zag x (some ⟨b,1,Option.none⟩)=some (.slice (some ⟨g,0,Option.none⟩) bs.length cap):=zad (Ext.at hx0 hb) rfl
 have hgx:=Ext.at hx0 hg
 simp (disch:=first|omega|assumption|rfl) only[go_sem,c1,Nat.zero_add]
 refine⟨fun a ha hb=>(by cases ha;exact hbg hb),fun a ha hb=>(by cases ha;exact hbg hb),?_⟩
 refine zaP (u:= .slice (some ⟨g,0,Option.none⟩) bs.length cap) (vq0) (Lib.run_unsafeSliceData_row _ _ _ _ _ _ hc0) ?_
 refine⟨.inr (Keep.refl _ _),?_⟩
 refine zau (u:= .pointer (some ⟨g,0,Option.none⟩)) (z:=vi bs.length) (vq0) (vq0) (Lib.run_unsafeString_row (P:=Tryz.prog) _ _ _ _ 5 (by rfl) (by rfl) g (cap*1) (by simp[World.shape?,hgx,hcs]) bs h0 (by omega) (by omega) ?_) ?_
 ·intro j y hj
  obtain⟨hj1,hj2⟩:=List.getElem?_eq_some_iff.1 hj
  have hcell:=hown.row
  obtain⟨a,c,e,hc,hgt⟩:=hcell.ext hx0
  injection e with e1 e2 e3
  have h2:=hgt j (by simpa using hj1)
  rw[←e1,List.getElem_map,hj2]at h2
  exact h2
 have hfk:Keep (fun i=>i=g) x (x.freeze ⟨g,0,Option.none⟩ bs.length):=zcg x ⟨g,0,Option.none⟩ bs.length
 refine⟨.inr hfk,?_⟩
 refine hK _ _ ?_;clear hK hgd;clear K;try clear gd
 repeat refine c_r ?_
 refine zaf (.inr rfl) Tryz.ntmps64 rfl (zac (vr0) zae) ?_
 exact⟨rfl,(hx0.mono (fun i _ h=>h.elim)).trans (hfk.mono (fun i _ h=>h▸hgB))⟩
end Go.Proofs.YtanmnkbccfcagaaGreatDoor
namespace Go.Proofs
open Go.Shelf
def Tryz.lays145_ren:Go.Shelf.Ren:=⟨fun|145=>73|220=>133|219=>198|217=>197|225=>240|224=>241|267=>242|266=>239|314=>274|n=>n,fun|9=>9|4=>4|59=>127|3=>3|5=>5|46=>262|146=>297|51=>28|n=>n,fun|1=>0|n=>n⟩
theorem Tryz.lays145:Go.Proofs.Lays.n145 Tryz.prog Tryz.lays145_ren:={
 mixed:=by kernel_rfl
 f145:=Tryz.func73.trans (congrArg some (by kernel_rfl))
 f217:=Tryz.func197.trans (congrArg some (by kernel_rfl))
 f219:=Tryz.func198.trans (congrArg some (by kernel_rfl))
 f220:=Tryz.func133.trans (congrArg some (by kernel_rfl))
 f224:=Tryz.func241.trans (congrArg some (by kernel_rfl))
 f225:=Tryz.func240.trans (congrArg some (by kernel_rfl))
 f266:=Tryz.func239.trans (congrArg some (by kernel_rfl))
 f267:=Tryz.func242.trans (congrArg some (by kernel_rfl))
 f314:=Tryz.func274.trans (congrArg some (by kernel_rfl))
 t3:=Tryz.underlying3
 a3:=Tryz.isAgg3
 z3:=Tryz.sizeOf3
 v3:=Tryz.zeroValue3
 t4:=Tryz.underlying4
 a4:=Tryz.isAgg4
 z4:=Tryz.sizeOf4
 v4:=Tryz.zeroValue4
 t5:=Tryz.underlying5
 a5:=Tryz.isAgg5
 z5:=Tryz.sizeOf5
 v5:=Tryz.zeroValue5
 t9:=Tryz.underlying9
 a9:=Tryz.isAgg9
 z9:=Tryz.sizeOf9
 v9:=Tryz.zeroValue9
 t46:=Tryz.underlying262
 a46:=Tryz.isAgg262
 z46:=Tryz.sizeOf262
 v46:=Tryz.zeroValue262
 t51:=Tryz.underlying28
 a51:=Tryz.isAgg28
 z51:=Tryz.sizeOf28
 v51:=Tryz.zeroValue28
 t59:=Tryz.underlying127
 a59:=Tryz.isAgg127
 z59:=Tryz.sizeOf127
 v59:=Tryz.zeroValue127
 t146:=Tryz.underlying297
 a146:=Tryz.isAgg297
 z146:=Tryz.sizeOf297
 v146:=Tryz.zeroValue297
 g1:=by kernel_rfl}
def Tryz.lays160_ren:Go.Shelf.Ren:=⟨fun|160=>134|232=>200|231=>199|227=>201|234=>203|233=>202|236=>205|235=>204|228=>243|271=>246|151=>245|197=>244|120=>277|152=>276|260=>275|137=>132|119=>286|224=>241|225=>240|217=>197|266=>239|n=>n,fun|9=>9|4=>4|3=>3|5=>5|117=>253|116=>252|0=>0|124=>256|21=>21|105=>285|46=>262|119=>321|139=>324|138=>323|n=>n,fun|3=>7|4=>8|n=>n⟩
theorem Tryz.lays160:Go.Proofs.Lays.n160 Tryz.prog Tryz.lays160_ren:={
 mixed:=by kernel_rfl
 f119:=Tryz.func286.trans (congrArg some (by kernel_rfl))
 f120:=Tryz.func277.trans (congrArg some (by kernel_rfl))
 f137:=Tryz.func132.trans (congrArg some (by kernel_rfl))
 f151:=Tryz.func245.trans (congrArg some (by kernel_rfl))
 f152:=Tryz.func276.trans (congrArg some (by kernel_rfl))
 f160:=Tryz.func134.trans (congrArg some (by kernel_rfl))
 f197:=Tryz.func244.trans (congrArg some (by kernel_rfl))
 f217:=Tryz.func197.trans (congrArg some (by kernel_rfl))
 f224:=Tryz.func241.trans (congrArg some (by kernel_rfl))
 f225:=Tryz.func240.trans (congrArg some (by kernel_rfl))
 f227:=Tryz.func201.trans (congrArg some (by kernel_rfl))
 f228:=Tryz.func243.trans (congrArg some (by kernel_rfl))
 f231:=Tryz.func199.trans (congrArg some (by kernel_rfl))
 f232:=Tryz.func200.trans (congrArg some (by kernel_rfl))
 f233:=Tryz.func202.trans (congrArg some (by kernel_rfl))
 f234:=Tryz.func203.trans (congrArg some (by kernel_rfl))
 f235:=Tryz.func204.trans (congrArg some (by kernel_rfl))
 f236:=Tryz.func205.trans (congrArg some (by kernel_rfl))
 f260:=Tryz.func275.trans (congrArg some (by kernel_rfl))
 f266:=Tryz.func239.trans (congrArg some (by kernel_rfl))
 f271:=Tryz.func246.trans (congrArg some (by kernel_rfl))
 t0:=Tryz.underlying0
 a0:=Tryz.isAgg0
 z0:=Tryz.sizeOf0
 v0:=Tryz.zeroValue0
 t3:=Tryz.underlying3
 a3:=Tryz.isAgg3
 z3:=Tryz.sizeOf3
 v3:=Tryz.zeroValue3
 t4:=Tryz.underlying4
 a4:=Tryz.isAgg4
 z4:=Tryz.sizeOf4
 v4:=Tryz.zeroValue4
 t5:=Tryz.underlying5
 a5:=Tryz.isAgg5
 z5:=Tryz.sizeOf5
 v5:=Tryz.zeroValue5
 t9:=Tryz.underlying9
 a9:=Tryz.isAgg9
 z9:=Tryz.sizeOf9
 v9:=Tryz.zeroValue9
 t21:=Tryz.underlying21
 a21:=Tryz.isAgg21
 z21:=Tryz.sizeOf21
 v21:=Tryz.zeroValue21
 t46:=Tryz.underlying262
 a46:=Tryz.isAgg262
 z46:=Tryz.sizeOf262
 v46:=Tryz.zeroValue262
 t105:=Tryz.underlying285
 a105:=Tryz.isAgg285
 z105:=Tryz.sizeOf285
 v105:=Tryz.zeroValue285
 t116:=Tryz.underlying252
 a116:=Tryz.isAgg252
 z116:=Tryz.sizeOf252
 t117:=Tryz.underlying253
 a117:=Tryz.isAgg253
 z117:=Tryz.sizeOf253
 v117:=Tryz.zeroValue253
 t119:=Tryz.underlying321
 a119:=Tryz.isAgg321
 z119:=Tryz.sizeOf321
 t124:=Tryz.underlying256
 a124:=Tryz.isAgg256
 z124:=Tryz.sizeOf256
 v124:=Tryz.zeroValue256
 t138:=Tryz.underlying323
 a138:=Tryz.isAgg323
 z138:=Tryz.sizeOf323
 v138:=Tryz.zeroValue323
 t139:=Tryz.underlying324
 a139:=Tryz.isAgg324
 z139:=Tryz.sizeOf324
 v139:=Tryz.zeroValue324
 g3:=by kernel_rfl
 g4:=by kernel_rfl}
def Tryz.lays146_ren:Go.Shelf.Ren:=⟨fun|146=>139|221=>208|268=>253|138=>254|143=>255|195=>280|197=>244|218=>281|219=>198|260=>275|217=>197|225=>240|224=>241|267=>242|266=>239|314=>274|n=>n,fun|9=>9|31=>23|3=>3|4=>4|0=>0|105=>285|21=>21|5=>5|46=>262|119=>321|139=>324|138=>323|146=>297|51=>28|n=>n,fun|1=>0|3=>7|4=>8|n=>n⟩
theorem Tryz.lays146:Go.Proofs.Lays.n146 Tryz.prog Tryz.lays146_ren:={
 mixed:=by kernel_rfl
 f138:=Tryz.func254.trans (congrArg some (by kernel_rfl))
 f143:=Tryz.func255.trans (congrArg some (by kernel_rfl))
 f146:=Tryz.func139.trans (congrArg some (by kernel_rfl))
 f195:=Tryz.func280.trans (congrArg some (by kernel_rfl))
 f197:=Tryz.func244.trans (congrArg some (by kernel_rfl))
 f217:=Tryz.func197.trans (congrArg some (by kernel_rfl))
 f218:=Tryz.func281.trans (congrArg some (by kernel_rfl))
 f219:=Tryz.func198.trans (congrArg some (by kernel_rfl))
 f221:=Tryz.func208.trans (congrArg some (by kernel_rfl))
 f224:=Tryz.func241.trans (congrArg some (by kernel_rfl))
 f225:=Tryz.func240.trans (congrArg some (by kernel_rfl))
 f260:=Tryz.func275.trans (congrArg some (by kernel_rfl))
 f266:=Tryz.func239.trans (congrArg some (by kernel_rfl))
 f267:=Tryz.func242.trans (congrArg some (by kernel_rfl))
 f268:=Tryz.func253.trans (congrArg some (by kernel_rfl))
 f314:=Tryz.func274.trans (congrArg some (by kernel_rfl))
 t0:=Tryz.underlying0
 a0:=Tryz.isAgg0
 z0:=Tryz.sizeOf0
 v0:=Tryz.zeroValue0
 t3:=Tryz.underlying3
 a3:=Tryz.isAgg3
 z3:=Tryz.sizeOf3
 v3:=Tryz.zeroValue3
 t4:=Tryz.underlying4
 a4:=Tryz.isAgg4
 z4:=Tryz.sizeOf4
 v4:=Tryz.zeroValue4
 t5:=Tryz.underlying5
 a5:=Tryz.isAgg5
 z5:=Tryz.sizeOf5
 v5:=Tryz.zeroValue5
 t9:=Tryz.underlying9
 a9:=Tryz.isAgg9
 z9:=Tryz.sizeOf9
 v9:=Tryz.zeroValue9
 t21:=Tryz.underlying21
 a21:=Tryz.isAgg21
 z21:=Tryz.sizeOf21
 v21:=Tryz.zeroValue21
 t31:=Tryz.underlying23
 a31:=Tryz.isAgg23
 z31:=Tryz.sizeOf23
 v31:=Tryz.zeroValue23
 t46:=Tryz.underlying262
 a46:=Tryz.isAgg262
 z46:=Tryz.sizeOf262
 v46:=Tryz.zeroValue262
 t51:=Tryz.underlying28
 a51:=Tryz.isAgg28
 z51:=Tryz.sizeOf28
 v51:=Tryz.zeroValue28
 t105:=Tryz.underlying285
 a105:=Tryz.isAgg285
 z105:=Tryz.sizeOf285
 v105:=Tryz.zeroValue285
 t119:=Tryz.underlying321
 a119:=Tryz.isAgg321
 z119:=Tryz.sizeOf321
 t138:=Tryz.underlying323
 a138:=Tryz.isAgg323
 z138:=Tryz.sizeOf323
 v138:=Tryz.zeroValue323
 t139:=Tryz.underlying324
 a139:=Tryz.isAgg324
 z139:=Tryz.sizeOf324
 v139:=Tryz.zeroValue324
 t146:=Tryz.underlying297
 a146:=Tryz.isAgg297
 z146:=Tryz.sizeOf297
 v146:=Tryz.zeroValue297
 g1:=by kernel_rfl
 g3:=by kernel_rfl
 g4:=by kernel_rfl}
def Tryz.laysPu14_ren:Go.Shelf.Ren:=⟨fun|14=>135|16=>206|17=>207|19=>247|20=>248|21=>249|22=>250|23=>251|24=>252|25=>278|27=>82|26=>279|28=>145|29=>210|30=>191|31=>192|32=>193|33=>194|35=>233|34=>232|36=>234|37=>235|38=>236|39=>271|40=>272|n=>n,fun|9=>9|3=>3|22=>114|24=>108|25=>209|4=>4|34=>288|5=>5|36=>262|37=>31|0=>0|39=>290|21=>21|44=>312|47=>200|50=>328|48=>326|2=>2|52=>239|55=>242|59=>280|60=>28|20=>20|61=>281|65=>319|66=>320|67=>121|n=>n,fun|0=>2|1=>3|2=>1|3=>5|4=>6|n=>n⟩
theorem Tryz.laysPu14:Go.Proofs.LaysPu.n14 Tryz.prog Tryz.laysPu14_ren:={
 mixed:=by kernel_rfl
 f14:=Tryz.func135.trans (congrArg some (by kernel_rfl))
 f16:=Tryz.func206.trans (congrArg some (by kernel_rfl))
 f17:=Tryz.func207.trans (congrArg some (by kernel_rfl))
 f19:=Tryz.func247.trans (congrArg some (by kernel_rfl))
 f20:=Tryz.func248.trans (congrArg some (by kernel_rfl))
 f21:=Tryz.func249.trans (congrArg some (by kernel_rfl))
 f22:=Tryz.func250.trans (congrArg some (by kernel_rfl))
 f23:=Tryz.func251.trans (congrArg some (by kernel_rfl))
 f24:=Tryz.func252.trans (congrArg some (by kernel_rfl))
 f25:=Tryz.func278.trans (congrArg some (by kernel_rfl))
 f26:=Tryz.func279.trans (congrArg some (by kernel_rfl))
 f27:=Tryz.func82.trans (congrArg some (by kernel_rfl))
 f28:=Tryz.func145.trans (congrArg some (by kernel_rfl))
 f29:=Tryz.func210.trans (congrArg some (by kernel_rfl))
 f30:=Tryz.func191.trans (congrArg some (by kernel_rfl))
 f31:=Tryz.func192.trans (congrArg some (by kernel_rfl))
 f32:=Tryz.func193.trans (congrArg some (by kernel_rfl))
 f33:=Tryz.func194.trans (congrArg some (by kernel_rfl))
 f34:=Tryz.func232.trans (congrArg some (by kernel_rfl))
 f35:=Tryz.func233.trans (congrArg some (by kernel_rfl))
 f36:=Tryz.func234.trans (congrArg some (by kernel_rfl))
 f37:=Tryz.func235.trans (congrArg some (by kernel_rfl))
 f38:=Tryz.func236.trans (congrArg some (by kernel_rfl))
 f39:=Tryz.func271.trans (congrArg some (by kernel_rfl))
 f40:=Tryz.func272.trans (congrArg some (by kernel_rfl))
 t0:=Tryz.underlying0
 a0:=Tryz.isAgg0
 z0:=Tryz.sizeOf0
 v0:=Tryz.zeroValue0
 i0:=by kernel_rfl
 t2:=Tryz.underlying2
 a2:=Tryz.isAgg2
 z2:=Tryz.sizeOf2
 v2:=Tryz.zeroValue2
 i2:=by kernel_rfl
 t3:=Tryz.underlying3
 a3:=Tryz.isAgg3
 z3:=Tryz.sizeOf3
 v3:=Tryz.zeroValue3
 i3:=by kernel_rfl
 t4:=Tryz.underlying4
 a4:=Tryz.isAgg4
 z4:=Tryz.sizeOf4
 v4:=Tryz.zeroValue4
 i4:=by kernel_rfl
 t5:=Tryz.underlying5
 a5:=Tryz.isAgg5
 z5:=Tryz.sizeOf5
 v5:=Tryz.zeroValue5
 i5:=by kernel_rfl
 t9:=Tryz.underlying9
 a9:=Tryz.isAgg9
 z9:=Tryz.sizeOf9
 v9:=Tryz.zeroValue9
 i9:=by kernel_rfl
 t20:=Tryz.underlying20
 a20:=Tryz.isAgg20
 z20:=Tryz.sizeOf20
 v20:=Tryz.zeroValue20
 i20:=by kernel_rfl
 t21:=Tryz.underlying21
 a21:=Tryz.isAgg21
 z21:=Tryz.sizeOf21
 v21:=Tryz.zeroValue21
 i21:=by kernel_rfl
 t22:=Tryz.underlying114
 a22:=Tryz.isAgg114
 z22:=Tryz.sizeOf114
 v22:=Tryz.zeroValue114
 i22:=by kernel_rfl
 t24:=Tryz.underlying108
 a24:=Tryz.isAgg108
 z24:=Tryz.sizeOf108
 v24:=Tryz.zeroValue108
 i24:=by kernel_rfl
 t25:=Tryz.underlying209
 a25:=Tryz.isAgg209
 z25:=Tryz.sizeOf209
 v25:=Tryz.zeroValue209
 i25:=by kernel_rfl
 t34:=Tryz.underlying288
 a34:=Tryz.isAgg288
 z34:=Tryz.sizeOf288
 v34:=Tryz.zeroValue288
 i34:=by kernel_rfl
 c34:=by kernel_rfl
 t36:=Tryz.underlying262
 a36:=Tryz.isAgg262
 z36:=Tryz.sizeOf262
 v36:=Tryz.zeroValue262
 i36:=by kernel_rfl
 t37:=Tryz.underlying31
 a37:=Tryz.isAgg31
 z37:=Tryz.sizeOf31
 v37:=Tryz.zeroValue31
 i37:=by kernel_rfl
 t39:=Tryz.underlying290
 a39:=Tryz.isAgg290
 z39:=Tryz.sizeOf290
 v39:=Tryz.zeroValue290
 i39:=by kernel_rfl
 t44:=Tryz.underlying312
 a44:=Tryz.isAgg312
 z44:=Tryz.sizeOf312
 v44:=Tryz.zeroValue312
 i44:=by kernel_rfl
 t47:=Tryz.underlying200
 a47:=Tryz.isAgg200
 z47:=Tryz.sizeOf200
 v47:=Tryz.zeroValue200
 i47:=by kernel_rfl
 t48:=Tryz.underlying326
 a48:=Tryz.isAgg326
 z48:=Tryz.sizeOf326
 v48:=Tryz.zeroValue326
 i48:=by kernel_rfl
 t50:=Tryz.underlying328
 a50:=Tryz.isAgg328
 z50:=Tryz.sizeOf328
 v50:=Tryz.zeroValue328
 i50:=by kernel_rfl
 t52:=Tryz.underlying239
 a52:=Tryz.isAgg239
 z52:=Tryz.sizeOf239
 v52:=Tryz.zeroValue239
 i52:=by kernel_rfl
 t55:=Tryz.underlying242
 a55:=Tryz.isAgg242
 z55:=Tryz.sizeOf242
 v55:=Tryz.zeroValue242
 i55:=by kernel_rfl
 t59:=Tryz.underlying280
 a59:=Tryz.isAgg280
 z59:=Tryz.sizeOf280
 v59:=Tryz.zeroValue280
 i59:=by kernel_rfl
 t60:=Tryz.underlying28
 a60:=Tryz.isAgg28
 z60:=Tryz.sizeOf28
 v60:=Tryz.zeroValue28
 i60:=by kernel_rfl
 t61:=Tryz.underlying281
 a61:=Tryz.isAgg281
 z61:=Tryz.sizeOf281
 t65:=Tryz.underlying319
 a65:=Tryz.isAgg319
 z65:=Tryz.sizeOf319
 v65:=Tryz.zeroValue319
 i65:=by kernel_rfl
 t66:=Tryz.underlying320
 a66:=Tryz.isAgg320
 z66:=Tryz.sizeOf320
 v66:=Tryz.zeroValue320
 i66:=by kernel_rfl
 t67:=Tryz.underlying121
 a67:=Tryz.isAgg121
 z67:=Tryz.sizeOf121
 v67:=Tryz.zeroValue121
 i67:=by kernel_rfl
 g0:=by kernel_rfl
 m0:=by kernel_rfl
 g1:=by kernel_rfl
 m1:=by kernel_rfl
 g2:=by kernel_rfl
 m2:=by kernel_rfl
 g3:=by kernel_rfl
 m3:=by kernel_rfl
 g4:=by kernel_rfl
 m4:=by kernel_rfl}
def Tryz.laysM171_ren:Go.Shelf.Ren:=⟨fun|171=>82|243=>145|246=>210|283=>191|284=>192|285=>193|286=>194|129=>233|317=>232|318=>234|319=>235|320=>236|337=>271|338=>272|n=>n,fun|3=>3|9=>9|2=>2|4=>4|171=>239|0=>0|53=>114|37=>31|5=>5|173=>242|212=>280|51=>28|20=>20|213=>281|46=>262|232=>319|233=>320|n=>n,fun|17=>1|18=>5|19=>6|n=>n⟩
theorem Tryz.laysM171:Go.Proofs.LaysM.n171 Tryz.prog Tryz.laysM171_ren:={
 mixed:=by kernel_rfl
 f129:=Tryz.func233.trans (congrArg some (by kernel_rfl))
 f171:=Tryz.func82.trans (congrArg some (by kernel_rfl))
 f243:=Tryz.func145.trans (congrArg some (by kernel_rfl))
 f246:=Tryz.func210.trans (congrArg some (by kernel_rfl))
 f283:=Tryz.func191.trans (congrArg some (by kernel_rfl))
 f284:=Tryz.func192.trans (congrArg some (by kernel_rfl))
 f285:=Tryz.func193.trans (congrArg some (by kernel_rfl))
 f286:=Tryz.func194.trans (congrArg some (by kernel_rfl))
 f317:=Tryz.func232.trans (congrArg some (by kernel_rfl))
 f318:=Tryz.func234.trans (congrArg some (by kernel_rfl))
 f319:=Tryz.func235.trans (congrArg some (by kernel_rfl))
 f320:=Tryz.func236.trans (congrArg some (by kernel_rfl))
 f337:=Tryz.func271.trans (congrArg some (by kernel_rfl))
 f338:=Tryz.func272.trans (congrArg some (by kernel_rfl))
 t0:=Tryz.underlying0
 a0:=Tryz.isAgg0
 z0:=Tryz.sizeOf0
 v0:=Tryz.zeroValue0
 t2:=Tryz.underlying2
 a2:=Tryz.isAgg2
 z2:=Tryz.sizeOf2
 v2:=Tryz.zeroValue2
 t3:=Tryz.underlying3
 a3:=Tryz.isAgg3
 z3:=Tryz.sizeOf3
 v3:=Tryz.zeroValue3
 t4:=Tryz.underlying4
 a4:=Tryz.isAgg4
 z4:=Tryz.sizeOf4
 v4:=Tryz.zeroValue4
 t5:=Tryz.underlying5
 a5:=Tryz.isAgg5
 z5:=Tryz.sizeOf5
 v5:=Tryz.zeroValue5
 t9:=Tryz.underlying9
 a9:=Tryz.isAgg9
 z9:=Tryz.sizeOf9
 v9:=Tryz.zeroValue9
 t20:=Tryz.underlying20
 a20:=Tryz.isAgg20
 z20:=Tryz.sizeOf20
 v20:=Tryz.zeroValue20
 t37:=Tryz.underlying31
 a37:=Tryz.isAgg31
 z37:=Tryz.sizeOf31
 v37:=Tryz.zeroValue31
 t46:=Tryz.underlying262
 a46:=Tryz.isAgg262
 z46:=Tryz.sizeOf262
 v46:=Tryz.zeroValue262
 t51:=Tryz.underlying28
 a51:=Tryz.isAgg28
 z51:=Tryz.sizeOf28
 v51:=Tryz.zeroValue28
 t53:=Tryz.underlying114
 a53:=Tryz.isAgg114
 z53:=Tryz.sizeOf114
 v53:=Tryz.zeroValue114
 t171:=Tryz.underlying239
 a171:=Tryz.isAgg239
 z171:=Tryz.sizeOf239
 v171:=Tryz.zeroValue239
 t173:=Tryz.underlying242
 a173:=Tryz.isAgg242
 z173:=Tryz.sizeOf242
 v173:=Tryz.zeroValue242
 t212:=Tryz.underlying280
 a212:=Tryz.isAgg280
 z212:=Tryz.sizeOf280
 v212:=Tryz.zeroValue280
 t213:=Tryz.underlying281
 a213:=Tryz.isAgg281
 z213:=Tryz.sizeOf281
 t232:=Tryz.underlying319
 a232:=Tryz.isAgg319
 z232:=Tryz.sizeOf319
 v232:=Tryz.zeroValue319
 t233:=Tryz.underlying320
 a233:=Tryz.isAgg320
 z233:=Tryz.sizeOf320
 v233:=Tryz.zeroValue320
 g17:=by kernel_rfl
 g18:=by kernel_rfl
 g19:=by kernel_rfl
 i0:=by kernel_rfl
 i2:=by kernel_rfl
 i3:=by kernel_rfl
 i4:=by kernel_rfl
 i5:=by kernel_rfl
 i9:=by kernel_rfl
 i20:=by kernel_rfl
 i37:=by kernel_rfl
 i46:=by kernel_rfl
 i51:=by kernel_rfl
 i53:=by kernel_rfl
 i171:=by kernel_rfl
 i173:=by kernel_rfl
 i212:=by kernel_rfl
 i232:=by kernel_rfl
 i233:=by kernel_rfl
 m17:=by kernel_rfl
 m18:=by kernel_rfl
 m19:=by kernel_rfl}
end Go.Proofs
namespace Go.Proofs.YtanmnkbccfcagaaGreatDoor
open Go
set_option maxRecDepth 10000
def digB(c:UInt8):Bool:=decide (48≤c.toNat) && decide (c.toNat≤57)
def valD(l:Lab):Nat:=l.foldl (fun n c=>10*n+(c.toNat - 48)) 0
def zfb(l:Lab):Bool:=!l.isEmpty && (l.all digB && !(decide (1<l.length) && decide (l.head? =some 48)))
theorem valD_app(l:Lab)(c:UInt8):valD (l++ [c])=10*valD l+(c.toNat - 48):=by
 unfold valD
 rw[List.foldl_append]
 rfl
def cutB(c:UInt8):Lab→Lab×Lab×Bool
 | []=>([],[],false)
 |b::l=>if b=c then([],l,true) else(b::(cutB c l).1,(cutB c l).2.1,(cutB c l).2.2)
theorem zgS(b c:UInt8)(l:Lab):Lib.index (b::l) [c]=if b=c then 0 else if Lib.index l [c]= -1 then -1 else Lib.index l [c]+1:=by
 rw[Lib.index]
 have e:[c].isPrefixOf (b::l)=decide (b=c):=by
  simp only[List.isPrefixOf,Bool.and_true]
  by_cases h:b=c
  ·subst h;simp
  ·rw[decide_eq_false h];simpa using fun h'=>h h'.symm
 rw[e]
 by_cases h:b=c
 ·simp[h]
 ·simp[h]
theorem ziv(c:UInt8):∀s:Lab,Lib.cut s [c]=cutB c s
 | []=>by unfold Lib.cut cutB;simp[Lib.index]
 |b::l=>by
  have ih:=ziv c l
  have hg:=Lib.index_ge l [c]
  unfold Lib.cut at ih ⊢
  unfold cutB
  rw[zgS]
  by_cases h:b=c
  ·rw[if_pos h,if_pos h];simp
  ·rw[if_neg h,if_neg h]
   by_cases hi:Lib.index l [c]= -1
   ·rw[if_pos hi]
    rw[hi]at ih
    rw[←ih]
    simp
   ·rw[if_neg hi]
    have h0:0≤Lib.index l [c]:=by omega
    rw[if_pos h0]at ih
    rw[if_pos (by omega),←ih]
    obtain⟨k,hk⟩:=Int.eq_ofNat_of_zero_le h0
    rw[hk]
    have e:((k:Int)+1).toNat=k+1:=by omega
    rw[e,Int.toNat_natCast]
    simp[Nat.add_right_comm]
theorem zeA{k:Nat}(h:k<10):(UInt8.ofNat (48+k)).toNat=48+k:=by
 rw[UInt8.toNat_ofNat']
 show(48+k) % 256=_
 omega
theorem valD_dec(u:Nat):valD (Lib.decDigits u)=u:=by
 induction u using Nat.strongRecOn with
 |_ u ih=>
  rw[Lib.decDigits]
  by_cases h:u<10
  ·rw[dif_pos h]
   show 10*0+((UInt8.ofNat (48+u)).toNat - 48)=u
   rw[zeA h];omega
  ·rw[dif_neg h,valD_app,ih (u / 10) (by omega),zeA (by omega)]
   omega
theorem zb3(u:Nat):∀c∈Lib.decDigits u,digB c=true:=by
 induction u using Nat.strongRecOn with
 |_ u ih=>
  have one:∀k,k<10→digB (UInt8.ofNat (48+k))=true:=fun k hk=>by
   unfold digB
   rw[zeA hk,decide_eq_true (by omega),decide_eq_true (by omega)];rfl
  intro c hc
  rw[Lib.decDigits]at hc
  by_cases h:u<10
  ·rw[dif_pos h]at hc
   rw[List.mem_singleton.1 hc]
   exact one u h
  ·rw[dif_neg h]at hc
   rcases List.mem_append.1 hc with hc|hc
   ·exact ih (u / 10) (by omega) c hc
   ·rw[List.mem_singleton.1 hc]
    exact one _ (by omega)
theorem zgv(u:Nat):Lib.decDigits u≠ []:=by
 rw[Lib.decDigits]
 split<;>simp
theorem dec_head(u:Nat)(hu:1≤u):(Lib.decDigits u).head?≠some 48:=by
 induction u using Nat.strongRecOn with
 |_ u ih=>
  rw[Lib.decDigits]
  by_cases h:u<10
  ·rw[dif_pos h]
   intro e
   have e2:UInt8.ofNat (48+u)=48:=by simpa using e
   have e3:=congrArg UInt8.toNat e2
   rw[zeA h]at e3
   have:(48:UInt8).toNat=48:=rfl
   omega
  ·rw[dif_neg h]
   have h1:=ih (u / 10) (by omega) (by omega)
   have h2:=zgv (u / 10)
   cases hd:Lib.decDigits (u / 10) with
   |nil=>exact absurd hd h2
   |cons a l=>rw[hd]at h1;simpa using h1
theorem zii(u:Nat):zfb (Lib.decDigits u)=true:=by
 unfold zfb
 have h1:(Lib.decDigits u).isEmpty=false:=by
  cases h:Lib.decDigits u with
  |nil=>exact absurd h (zgv u)
  |cons=>rfl
 have h2:(Lib.decDigits u).all digB=true:=List.all_eq_true.2 (zb3 u)
 rw[h1,h2]
 by_cases hu:1≤u
 ·rw[decide_eq_false (dec_head u hu)];simp
 ·have:u=0:=by omega
  subst this
  rw[Lib.decDigits_one (by decide)];rfl
def decP(most:Nat)(s:Lab):Nat×Int:=if zfb s then(if valD s≤most then(valD s,0) else(0,7)) else(0,2)
theorem zeB{most u:Nat}(h:u≤most):decP most (Lib.decDigits u)=(u,0):=by
 unfold decP
 rw[zii,valD_dec,if_pos rfl,if_pos h]
section
variable {A B C D E F G H I : Prop}
theorem an2(a:A)(b:B):A∧B:=⟨a,b⟩
theorem an3(a:A)(b:B)(c:C):A∧B∧C:=⟨a,b,c⟩
theorem an4(a:A)(b:B)(c:C)(d:D):A∧B∧C∧D:=⟨a,b,c,d⟩
theorem an5(a:A)(b:B)(c:C)(d:D)(e:E):A∧B∧C∧D∧E:=⟨a,b,c,d,e⟩
theorem an6(a:A)(b:B)(c:C)(d:D)(e:E)(f:F):A∧B∧C∧D∧E∧F:=⟨a,b,c,d,e,f⟩
theorem an7(a:A)(b:B)(c:C)(d:D)(e:E)(f:F)(g:G):A∧B∧C∧D∧E∧F∧G:=⟨a,b,c,d,e,f,g⟩
theorem an8(a:A)(b:B)(c:C)(d:D)(e:E)(f:F)(g:G)(h:H):A∧B∧C∧D∧E∧F∧G∧H:=⟨a,b,c,d,e,f,g,h⟩
theorem an9(a:A)(b:B)(c:C)(d:D)(e:E)(f:F)(g:G)(h:H)(i:I):A∧B∧C∧D∧E∧F∧G∧H∧I:=⟨a,b,c,d,e,f,g,h,i⟩
end
def gdOk:List (Nat×Nat)→(Nat→Option Tmp)→Prop
 | [],_=>True
 |p::l,gd=>gd p.1=some p.2∧gdOk l gd
theorem zfL{L:List Oper}:∀{gs:List (Nat×Nat)},(gs.all fun p=>dstL L p.1==some p.2)=true→gdOk gs (dstL L)
 | [],_=>trivial
 |p::l,h=>by
  simp only[List.all_cons,Bool.and_eq_true,beq_iff_eq]at h
  exact⟨h.1,zfL h.2⟩
theorem zfW(b:Bool):zaD undef b=false:=nr rfl
def Rest(P:Program)(Q:Post)(ds:List Deferred)(L:List Oper)(F:(Nat→Option Tmp)→(Sto→World→Prop)→Prop):Prop:=
 ∀(gd:Nat→Option Tmp) (K:Sto→World→Prop),gd=dstL L→(∀σ' w',Q .normal σ' ds w'→K σ' w')→F gd K
section
variable {P : Program} {r : Option Nat} {n : Nat} {Q : Post} {σ : Sto} {ds : List Deferred} {w : World} {p : Prop} {L : List Oper} {F : (Nat → Option Tmp) → (Sto → World → Prop) → Prop}
theorem wt{c:Operand}{x y:Code}(h:p)(ht:W P r n x Q σ ds w)(hc:p→ev n σ c= .bool true:=by intro h1;first| (simp only[go_sem,h1];done)| (simp only[go_sem,h1];rfl)):W P r n (.cond c x y) Q σ ds w:=zbV (hc h) (fun _=>ht) (fun h=>by cases h)
theorem wf{c:Operand}{x y:Code}(h:p)(ht:W P r n y Q σ ds w)(hc:p→ev n σ c= .bool false:=by intro h1;first| (simp only[go_sem,h1];done)| (simp only[go_sem,h1];rfl)):W P r n (.cond c x y) Q σ ds w:=zbV (hc h) (fun h=>by cases h) (fun _=>ht)
theorem ro{id:Nat}{ops:Array Oper}(h:Rest P Q ds ops.toList (fun gd K=>opsV P gd n ops.toList σ w K))(hd:zaT ops=true:=by rfl):W P r n (.region id ops false) Q σ ds w:=zc5 hd fun gd K hgd hK=>h gd K hgd hK
theorem rd{f:FuncId}{args:Array Value}{w1:World}{R:Value→World→Prop}{C:(Nat→Option Tmp)→(Sto→World→Prop)→Value→World→Prop}(h:p)(hF:Fn P f args w1 R)(hr:∀v w',R v w'→Rest P Q ds L (fun gd K=>C gd K v w'))
  (hs:p→∀(gd:Nat→Option Tmp) (K:Sto→World→Prop),F gd K=Fn P f args w1 (fun v w'=>C gd K v w'):=by intro h1 gd K;(simp (disch:=first|omega|assumption|rfl) only[go_sem,h1])<;>exact rfl):Rest P Q ds L F:=
 fun gd K hgd hK=>(hs h gd K).mpr (Fn.mono hF fun v w' hR=>hr v w' hR gd K hgd hK)
theorem rc{id:Nat}{ops:Array Oper}{f:FuncId}{args:Array Value}{w1:World}{R:Value→World→Prop}{C:(Nat→Option Tmp)→(Sto→World→Prop)→Value→World→Prop}(h:p)(hF:Fn P f args w1 R)(hr:∀v w',R v w'→Rest P Q ds ops.toList (fun gd K=>C gd K v w'))
  (hs:p→∀(gd:Nat→Option Tmp) (K:Sto→World→Prop),opsV P gd n ops.toList σ w K=Fn P f args w1 (fun v w'=>C gd K v w'):=by intro h1 gd K;(simp (disch:=first|omega|assumption|rfl) only[go_sem,h1])<;>exact rfl)
  (hd:zaT ops=true:=by rfl):W P r n (.region id ops false) Q σ ds w:=ro (rd h hF hr hs) hd
theorem re{σ1:Sto}{w1:World}(h:p)(hq:Q .normal σ1 ds w1)
  (hs:p→∀(gd:Nat→Option Tmp) (K:Sto→World→Prop),F gd K=K σ1 w1:=by intro h1 gd K;(first| (simp (disch:=first|omega|assumption|rfl) only[go_sem,h1])|skip)<;>exact rfl):Rest P Q ds L F:=
 fun gd K _ hK=>(hs h gd K).mpr (hK _ _ hq)
theorem rdg(gs:List (Nat×Nat)){f:FuncId}{args:Array Value}{w1:World}{R:Value→World→Prop}{C:(Nat→Option Tmp)→(Sto→World→Prop)→Value→World→Prop}(h:p)(hF:Fn P f args w1 R)(hr:∀v w',R v w'→Rest P Q ds L (fun gd K=>C gd K v w'))
  (hs:p→∀(gd:Nat→Option Tmp) (K:Sto→World→Prop),gdOk gs gd→F gd K=Fn P f args w1 (fun v w'=>C gd K v w'):=by intro h1 gd K hg;simp only[gdOk]at hg;(simp (disch:=first|omega|assumption|rfl) only[go_sem,zak,zbr,zfW,hg,h1])<;>exact rfl)
  (hg:(gs.all fun p=>dstL L p.1==some p.2)=true:=by exact rfl):Rest P Q ds L F:=
 fun gd K hgd hK=>(hs h gd K (hgd▸zfL hg)).mpr (Fn.mono hF fun v w' hR=>hr v w' hR gd K hgd hK)
theorem rcg(gs:List (Nat×Nat)){id:Nat}{ops:Array Oper}{f:FuncId}{args:Array Value}{w1:World}{R:Value→World→Prop}{C:(Nat→Option Tmp)→(Sto→World→Prop)→Value→World→Prop}(h:p)(hF:Fn P f args w1 R)(hr:∀v w',R v w'→Rest P Q ds ops.toList (fun gd K=>C gd K v w'))
  (hs:p→∀(gd:Nat→Option Tmp) (K:Sto→World→Prop),gdOk gs gd→opsV P gd n ops.toList σ w K=Fn P f args w1 (fun v w'=>C gd K v w'):=by intro h1 gd K hg;simp only[gdOk]at hg;(simp (disch:=first|omega|assumption|rfl) only[go_sem,zak,zbr,zfW,hg,h1])<;>exact rfl)
  (hg:(gs.all fun p=>dstL ops.toList p.1==some p.2)=true:=by exact rfl) (hd:zaT ops=true:=by rfl):W P r n (.region id ops false) Q σ ds w:=ro (rdg gs h hF hr hs hg) hd
theorem reg(gs:List (Nat×Nat)){σ1:Sto}{w1:World}(h:p)(hq:Q .normal σ1 ds w1)
  (hs:p→∀(gd:Nat→Option Tmp) (K:Sto→World→Prop),gdOk gs gd→F gd K=K σ1 w1:=by intro h1 gd K hg;simp only[gdOk]at hg;(first| (simp (disch:=first|omega|assumption|rfl) only[go_sem,zak,zbr,zfW,hg,h1])|skip)<;>exact rfl)
  (hg:(gs.all fun p=>dstL L p.1==some p.2)=true:=by exact rfl):Rest P Q ds L F:=
 fun gd K hgd hK=>(hs h gd K (hgd▸zfL hg)).mpr (hK _ _ hq)
theorem rgg(gs:List (Nat×Nat)){id:Nat}{ops:Array Oper}{σ1:Sto}{w1:World}(h:p)(hq:Q .normal σ1 ds w1)
  (hs:p→∀(gd:Nat→Option Tmp) (K:Sto→World→Prop),gdOk gs gd→opsV P gd n ops.toList σ w K=K σ1 w1:=by intro h1 gd K hg;simp only[gdOk]at hg;(simp (disch:=first|omega|assumption|rfl) only[go_sem,zak,zbr,zfW,hg,h1])<;>exact rfl)
  (hg:(gs.all fun p=>dstL ops.toList p.1==some p.2)=true:=by exact rfl) (hd:zaT ops=true:=by rfl):W P r n (.region id ops false) Q σ ds w:=ro (reg gs h hq hs hg) hd
end
end Go.Proofs.YtanmnkbccfcagaaGreatDoor
namespace Go.Proofs.YtanmnkbccfcagaaGreatDoor
open Go Go.ChangeShapes Go.WideShapes Go.ChangeAt Go.RowKit Go.WideElems
theorem Ext.below{w x:World}(h:Ext w x):RowKit.Below w.heap.size w x:=⟨h.os,h.tape,h.output,h.size,fun k hk=>h.block k hk (fun h=>h)⟩
theorem Ext.kept{w x:World}(h:Ext w x)(may:MemPlace→Prop):w.keptBut x may:=by
 refine⟨h.os,h.output,fun i hi=>?_⟩
 rw[h.block i hi (fun h=>h)]
 cases hw:w.heap[i]? with
 |none=>trivial
 |some o=>cases o<;>simp
theorem zco{H:Type}{enc:TypeId×Value→H}{P:Program}(hl:laidOutB P=true){W W':World}{sp:Nat→Bool}(hE:Ext W W'):
  ∀{ts:List TypeId} {vs:List Value} {ds:List (DataW H)} {ps:List MemPlace},(∀t∈ts,P.readableRec t=true∧t<P.types.size)→DataW.TrodAll enc P W 0 (fun _=>true) true ts vs ds ps→(∀x∈ps,x.block<W.heap.size)→(∀x∈ps,sp x.block=true)→
   DataW.TrodAll enc P W' 0 sp true ts vs ds ps
 | [],_,_,_,_,h,_,_=>by
  obtain⟨rfl,rfl,rfl⟩:=trodAll_nil h
  exact trodAll_mk0
 |_::_,_,_,_,ht,h,hlt,hs=>by
  obtain⟨v,vs1,d,ds1,a,b,rfl,rfl,rfl,h1,h2⟩:=trodAll_cons h
  obtain⟨hr,hrow⟩:=ht _ (List.mem_cons_self ..)
  exact trodAll_cons_mk (WideElems.Trod_stays hl hr hrow h1 (fun x hx=>hE.below.same (hlt x (List.mem_append_left _ hx))) (fun x hx=>hs x (List.mem_append_left _ hx)))
   (zco hl hE (fun t h=>ht t (List.mem_cons_of_mem _ h)) h2 (fun x hx=>hlt x (List.mem_append_right _ hx)) (fun x hx=>hs x (List.mem_append_right _ hx)))
theorem zgV{w x:World}(h:Ext w x){b:Nat}(hb:b<w.heap.size)(o:Nat):x.frozen? ⟨b,o,Option.none⟩=w.frozen? ⟨b,o,Option.none⟩:=by
 unfold World.frozen?
 rw[h.block b hb (fun h=>h)]
theorem law_post{H:Type}{enc:TypeId×Value→H}{P:Program}{f:Func}{s:ChangeSpec}{apart fresh handsOn again:Bool}{W W':World}{args:Array Value}{ds gs:List (DataW H)}{before:List MemPlace}
  (hW:DataW.Whole enc P f.params.toList s.vars apart W args.toList ds gs before) (hvn:s.vars=[]) (hspec:s.fn H ds={results:=[.lit (.bool true)],args:=ds}) {tb:TypeId} (hrt:f.resultTypes=#[tb]) (htb:P.underlying tb=some .bool)
  (hl:laidOutB P=true) (hrd:∀t∈f.params.toList,P.readableRec t=true∧t<P.types.size) (hE:Ext W W'):s.post enc P f apart fresh handsOn again W args (.bool true) W':=by
 have hlt:=hW.lt
 have hW0:=hW
 obtain⟨p,q,hA,hV,hpq,hfz,hnd⟩:=hW
 have hq:gs=[]∧q=[]:=by
  rw[hvn]at hV
  cases gs with
  |nil=>exact⟨rfl,hV⟩
  |cons _ _=>exact hV.elim
 obtain⟨rfl,rfl⟩:=hq
 rw[List.append_nil]at hpq
 subst hpq
 have hres:∀(b:Nat) (sp:Nat→Bool) (hd:Bool),DataW.TrodAll enc P W' b sp hd f.resultTypes.toList ((Value.bool true).resultList f.resultTypes.size) (s.fn H (ds++ [])).results []:=fun b sp hd=>by
  rw[List.append_nil,hspec,hrt]
  exact trodAll_mk1 (shut_bool htb true)
 have hargs:∀sp:Nat→Bool,(∀x∈before,sp x.block=true)→DataW.TrodAll enc P W' 0 sp true f.params.toList args.toList (s.fn H (ds++ [])).args before:=fun sp hs=>by
  rw[List.append_nil,hspec]
  exact zco hl hE hrd hA hlt hs
 have hvars:∀sp:Nat→Bool,DataW.TrodVars enc P W' sp s.vars (s.fn H (ds++ [])).vars []:=fun sp=>by
  rw[List.append_nil,hspec,hvn];rfl
 have hold:∀x∈before,(fun b=>decide (b<W.heap.size)) x.block=true:=fun x hx=>by simpa using hlt x hx
 refine⟨ds,[],before,[],before,[],hW0,hres _ _ _,hargs _ hold,hvars _,hE.kept _,fun _=>?_⟩
 refine⟨fun j t r h1 h2=>?_,_,_,([]++before)++ [],⟨[]++before,[],trodAll_append (hargs _ (fun _ _=>rfl)) (hres _ _ _),hvars _,rfl,?_,?_⟩,?_⟩
 ·rw[hrt]at h1 h2
  match j with
  |0=>
   simp at h1
   subst h1
   have:r= .bool true:=by simpa [Value.resultList] using h2.symm
   subst this
   exact okWide_bool_mk htb true
  |j+1=>simp at h1
 ·intro b off hp
  have hp':MemPlace.cell b off∈before:=by simpa using hp
  rw[zgV hE (show b<W.heap.size from hlt _ hp')]
  exact hfz b off hp'
 ·intro ha
  simpa using hnd ha
 ·intro x hx _
  simpa using hx
/-! arguments -/
section
variable {H : Type} {enc : TypeId × Value → H} {P : Program} {w : World} {base : Nat} {sp : Nat → Bool} {held : Bool}
def Rd(enc:TypeId×Value→H)(P:Program)(w:World)(base:Nat)(sp:Nat→Bool)(held:Bool)(t:TypeId)(v:Value):Prop:=∃n x,DataW.trod enc P w base sp held n t [v]=some x∧∀k∈x.1.weights P t,k≤reachBytes
theorem zbG{e:TypeId}{d:DataW H}{k:Nat}:∀{l:List (DataW H)},d∈l→k∈d.weights P e→k∈DataW.weightsAll P e l
 |a::l,hd,hk=>by
  simp only[DataW.weightsAll,List.mem_append]
  rcases List.mem_cons.1 hd with rfl|hd
  ·exact .inl hk
  ·exact .inr (zbG hd hk)
theorem zgd{t e:TypeId}{v:Value}(h:Rd enc P w base sp held t v)(ht:P.underlying t=some (.slice e))(hc:P.cellsOf e=1):
  ∃vals,Row w v vals∧(∀u∈vals,Rd enc P w base sp held e u)∧vals.length*P.bytesOf e≤reachBytes:=by
 obtain⟨n,x,h,hw⟩:=h
 rcases Go.Deep.open_slice1 ht hc h with ⟨h1,_⟩| ⟨a,len,cap,m,k,V,D,Pl,h1,_,hl,hm,hmm,rfl,hx⟩
 ·simp only[List.cons.injEq,and_true]at h1
  subst h1
  exact⟨[],⟨Option.none,0,rfl,Nat.le_refl _,fun j h=>by simp at h⟩,fun u h=>(by cases h),by simp⟩
 ·simp only[List.cons.injEq,and_true]at h1
  subst h1
  have hml:len≤m:=by rw[hmm];split<;>omega
  simp only[DataW.weights,ht]at hw
  refine⟨(List.range len).map V,⟨some a,cap,by simp,by simpa using hl,fun j hj=>?_⟩,fun u hu=>?_,?_⟩
  ·simp at hj
   have:=(hx j (by omega)).1
   simpa [zag,adr] using this
  ·obtain⟨j,hj,rfl⟩:=List.mem_map.1 hu
   simp at hj
   refine⟨_,_,(hx j (by omega)).2,fun q hq=>hw q (List.mem_cons_of_mem _ (List.mem_append_left _ (zbG (d:=D j) ?_ hq)))⟩
   exact List.mem_map.2 ⟨j,by simpa using hj,rfl⟩
  ·have h1:=hw _ (List.mem_cons_self ..)
   have h2:((List.range len).map V).length*P.bytesOf e≤(((List.range len).map D).length+((List.range (m - len)).map fun j=>D (len+j)).length)*P.bytesOf e:=Nat.mul_le_mul (by simp) (Nat.le_refl _)
   omega
theorem zeW{t:TypeId}{v:Value}(h:Rd enc P w base sp held t v)(ht:P.underlying t=some .string):∃s:List UInt8,v=vs s∧s.length≤reachBytes:=by
 obtain⟨n,x,h,hw⟩:=h
 cases n with
 |zero=>cases h
 |succ n=>
  unfold DataW.trod at h
  rw[ht]at h
  cases v<;>simp at h
  rename_i s
  obtain⟨_,rfl⟩:=h
  exact⟨s.data.toList,by simp[vs],by simpa [DataW.weights,ByteArray.toList_eq] using hw⟩
theorem zfH{α β:Type}{f:α→β}{Q:α→Prop}:∀{l:List β},(∀u∈l,∃s,u=f s∧Q s)→∃m:List α,l=m.map f∧∀s∈m,Q s
 | [],_=>⟨[],rfl,fun s h=>by cases h⟩
 |b::l,h=>by
  obtain⟨s,rfl,hq⟩:=h b (List.mem_cons_self ..)
  obtain⟨m,rfl,hm⟩:=zfH (fun u hu=>h u (List.mem_cons_of_mem _ hu))
  refine⟨s::m,rfl,fun x hx=>?_⟩
  rcases List.mem_cons.1 hx with rfl|hx
  ·exact hq
  ·exact hm x hx
end
end Go.Proofs.YtanmnkbccfcagaaGreatDoor
namespace Go.Proofs.YtanmnkbccfcagaaGreatDoor
open Go
section
variable {H : Type} {enc : TypeId × Value → H} {P : Program} {w : World} {base : Nat} {sp : Nat → Bool} {held : Bool}
structure NmOk(n:Nm):Prop where
 lb:LB n
 len:n.length≤8796093022207
theorem reach_lt:reachBytes<140737488355328:=by decide
theorem zhI{t e:TypeId}{v:Value}(h:Rd enc P w base sp held t v)(ht:P.underlying t=some (.slice e))(hc:P.cellsOf e=1)(he:P.underlying e=some .string)(hb:P.bytesOf e=16):∃n:Nm,Row w v (n.map vs)∧NmOk n:=by
 obtain⟨vals,hr,hall,hl⟩:=zgd h ht hc
 obtain⟨m,rfl,hm⟩:=zfH (f:=vs) (fun u hu=>zeW (hall u hu) he)
 have:=reach_lt
 rw[hb]at hl
 exact⟨m,hr,fun l hl=>by have:=hm l hl;omega,by simp at hl;omega⟩
end
class Tr (p:World→Prop):Prop where
 tr:∀{w x:World},Ext w x→p w→p x
theorem tr{p:World→Prop}[h:Tr p]{w x:World}(hE:Ext w x)(hp:p w):p x:=h.tr hE hp
instance Tr.and{p q:World→Prop}[Tr p][Tr q]:Tr fun w=>p w∧q w:=⟨fun hE h=>⟨tr hE h.1,tr hE h.2⟩⟩
instance Tr.cell{a:Option Addr}{v:Value}:Tr fun w=>zag w a=some v:=⟨fun hE h=>zaa hE h⟩
instance Tr.cells{a:Option Addr}{k:Nat}{l:List Value}:Tr fun w=>zao w a k=some l:=⟨fun hE h=>zai hE h⟩
instance Tr.ext{w0:World}:Tr fun w=>Ext w0 w:=⟨fun hE h=>h.trans hE⟩
instance Tr.row{v:Value}{l:List Value}:Tr fun w=>Row w v l:=⟨fun hE h=>h.ext hE⟩
instance Tr.obj{b:Nat}{o:Obj}:Tr fun w=>w.heap[b]? =some o:=⟨fun hE h=>Ext.at hE h⟩
instance Tr.const{p:Prop}:Tr fun _=>p:=⟨fun _ h=>h⟩
instance Tr.all{α:Sort _}{p:α→World→Prop}[∀a,Tr (p a)]:Tr fun w=>∀a,p a w:=⟨fun hE h a=>tr hE (h a)⟩
instance Tr.ex{α:Sort _}{p:α→World→Prop}[∀a,Tr (p a)]:Tr fun w=>∃a,p a w:=⟨fun hE h=>h.elim fun a h=>⟨a,tr hE h⟩⟩
attribute [go_sem] decide_true decide_false
theorem sc{p q:Prop}(h:p)(hs:p→q=True:=by intro h1;simp only[go_sem,h1]):q:=(hs h).mpr trivial
/-! many steps at once -/
structure Gto(p q:Prop):Prop where
 of:q→p
section
variable {P : Program} {r : Option Nat} {n : Nat} {Q : Post} {σ : Sto} {ds : List Deferred} {w : World} {p q s : Prop} {L : List Oper} {F : (Nat → Option Tmp) → (Sto → World → Prop) → Prop}
theorem zie:Gto p p:=⟨id⟩
theorem gto_c(h:Ctl p q)(k:Gto q s):Gto p s:=⟨fun g=>c_r (k.of g) h⟩
theorem gto_r{id:Nat}{ops:Array Oper}{σ1:Sto}{w1:World}(hs:∀(gd:Nat→Option Tmp) (K:Sto→World→Prop),gd=dstL ops.toList→opsV P gd n ops.toList σ w K=K σ1 w1)(hd:zaT ops=true)(k:Gto (Q .normal σ1 ds w1) q):
  Gto (W P r n (.region id ops false) Q σ ds w) q:=⟨fun g=>zc5 hd fun gd K hgd hK=>(hs gd K hgd).mpr (hK _ _ (k.of g))⟩
theorem gto_t{c:Operand}{x y:Code}(hc:ev n σ c= .bool true)(k:Gto (W P r n x Q σ ds w) q):Gto (W P r n (.cond c x y) Q σ ds w) q:=⟨fun g=>zbV hc (fun _=>k.of g) (fun h=>by cases h)⟩
theorem gto_f{c:Operand}{x y:Code}(hc:ev n σ c= .bool false)(k:Gto (W P r n y Q σ ds w) q):Gto (W P r n (.cond c x y) Q σ ds w) q:=⟨fun g=>zbV hc (fun h=>by cases h) (fun _=>k.of g)⟩
theorem go(h:p)(hq:s)(hs:p→Gto q s:=by
  intro h1
  repeat (first
   | (apply gto_c;· (with_reducible constructor)<;>exact rfl)
   | (apply gto_r;(intro gd K hgd;(simp (disch:=first|omega|assumption|rfl) only[go_sem,h1])<;>with_reducible exact rfl);rfl)
   | (apply gto_t;· first| (simp only[go_sem,h1];done)| (simp only[go_sem,h1];exact rfl))
   | (apply gto_f;· first| (simp only[go_sem,h1];done)| (simp only[go_sem,h1];exact rfl)))
  exact zie):q:=(hs h).of hq
theorem rgo{σ1:Sto}{w1:World}(h:p)(hq:s)
  (hs:p→∀(gd:Nat→Option Tmp) (K:Sto→World→Prop),F gd K=K σ1 w1:=by intro h1 gd K;(first| (simp (disch:=first|omega|assumption|rfl) only[go_sem,h1])|skip)<;>exact rfl)
  (hg:p→Gto (Q .normal σ1 ds w1) s:=by
   intro h1
   repeat (first
    | (apply gto_c;· (with_reducible constructor)<;>exact rfl)
    | (apply gto_r;(intro gd K hgd;(simp (disch:=first|omega|assumption|rfl) only[go_sem,h1])<;>with_reducible exact rfl);rfl)
    | (apply gto_t;· first| (simp only[go_sem,h1];done)| (simp only[go_sem,h1];exact rfl))
    | (apply gto_f;· first| (simp only[go_sem,h1];done)| (simp only[go_sem,h1];exact rfl)))
   exact zie):Rest P Q ds L F:=
 re (p:=True) trivial ((hg h).of hq) fun _=>hs h
theorem zbq{c:Code}(N:Nat)(I:Nat→Sto→World→Prop)(h0:I 0 σ w)
  (hs:∀i σ w,i<N→(decide ((i:Int)<(N:Int))=true∧(0:Int)≤(i:Int)∧(i:Int)<(N:Int)∧(i:Int)+1=((i+1:Nat):Int))→I i σ w→W P r n c (zcd (fun σ ds w=>ds=[]∧I (i+1) σ w) Q) σ [] w)
  (he:∀σ w,decide ((N:Int)<(N:Int))=false→I N σ w→W P r n c (zcd (fun _ _ _=>False) Q) σ [] w):W P r n (.loop c) Q σ [] w:=by
 refine zaR (fun m σ ds w=>ds=[]∧∃i,i+m=N∧I i σ w) N ⟨rfl,0,by omega,h0⟩ ?_
 rintro m σ ds w ⟨rfl,i,him,hI⟩
 by_cases h:i<N
 ·refine zaM (hs i σ w h ⟨decide_eq_true (by omega),by omega,by omega,by push_cast;rfl⟩ hI) ?_
  intro e σ' ds' w' hq
  cases e<;>first|exact hq|exact⟨m - 1,by omega,hq.1,i+1,by omega,hq.2⟩
 ·have e1:i=N:=by omega
  subst e1
  refine zaM (he σ w (decide_eq_false (by omega)) hI) ?_
  intro e σ' ds' w' hq
  cases e<;>first|exact hq|exact hq.elim
end
set_option maxRecDepth 10000
structure WX(w:World):Prop where
 ml:∃m,w.cell? ⟨0,0,Option.none⟩=some (.int .i64 m)
 p10:∃t fr,w.heap[1]? =some (.cells (Lib.pow10Tab.map fun z=>Value.int .u64 z).toArray t fr)
 er:∃t p,w.cell? ⟨3,0,Option.none⟩=some (.iface t p)
 tz:∃x,w.cell? ⟨6,15,Option.none⟩=some (.int .u8 x)∧0≤x∧x<256
theorem WX.ext{w x:World}(h:WX w)(hE:Ext w x):WX x:=by
 obtain⟨m,h1⟩:=h.ml
 obtain⟨t,fr,h2⟩:=h.p10
 obtain⟨u,p,h3⟩:=h.er
 obtain⟨x,h4,h5⟩:=h.tz
 exact⟨⟨m,zb7 hE h1⟩,⟨t,fr,hE.at h2⟩,⟨u,p,zb7 hE h3⟩,⟨x,zb7 hE h4,h5⟩⟩
instance WX.tr:Tr WX:=⟨fun hE h=>h.ext hE⟩
theorem WX.tab{w:World}(h:WX w){name:String}(hn:Tryz.prog.globalNamed name=some 1):Lib.TabIs Tryz.prog w name .u64 Lib.pow10Tab:=by
 obtain⟨t,fr,h⟩:=h.p10
 unfold Lib.TabIs World.var?
 rw[hn,Option.bind_some,h]
theorem zcj(w:World):∀n,(w.drewN n).drawn=w.drawn+n
 |0=>rfl
 |n+1=>by
  have:=zcj w n
  simp only[World.drewN]at this ⊢
theorem Ext.drewN(w:World)(n:Nat):Ext w (w.drewN n):=⟨rfl,rfl,rfl,Nat.le_refl _,fun _ _ _=>rfl,by rw[zcj];omega⟩
theorem Ext.of_below{w w':World}(h:RowKit.Below w.heap.size w w')(hd:w.drawn≤w'.drawn):Ext w w':=⟨h.os,h.tape,h.output,h.size,fun b hb _=>h.block b hb,hd⟩
theorem Ext.grow(w:World)(n:Nat)(os:Array Obj):Ext w (Go.Sort.grow (w.drewN n) os):=
 ⟨rfl,rfl,rfl,by show w.heap.size≤(w.heap++os).size;rw[Array.size_append];omega,fun b hb _=>by
  show(w.heap++os)[b]? =_
  rw[Array.getElem?_append_left hb],by show w.drawn≤(w.drewN n).drawn;rw[zcj];omega⟩
theorem zfa(w:World)(a:Addr)(n:Nat):(w.freeze a n).drawn=w.drawn:=by unfold World.freeze;split<;>rfl
theorem Ext.bytes(w:World)(e:TypeId)(s:ByteArray):Ext w (Lib.bytesWorld w e s):=
 Ext.of_below (Lib.bytesWorld_below _ _ _) (by
  unfold Lib.bytesWorld
  rw[zfa]
  exact Nat.le_succ _)
/-! contracts -/
theorem Cut_ok{w:World}(hW:WX w)(s:Lab)(c:UInt8)(hs:s.length<4000000000):
  Fn Tryz.prog 73 #[vs s,vs [c]] w (fun v w'=>v= .tuple #[vs (cutB c s).1,vs (cutB c s).2.1,.bool (cutB c s).2.2]∧Ext w w'):=by
 obtain⟨m,hm⟩:=hW.ml
 refine Fn.of_calls (Calls.mono (Any.strings_Cut Tryz.lays145 ⟨s.toArray⟩ ⟨#[c]⟩ m w (show s.toArray.size<_ by simp;omega) hm) ?_)
 rintro _ w' ⟨he,n,rfl⟩
 refine⟨_,he,?_,Ext.drewN w n⟩
 rw[show Lib.cut (⟨s.toArray⟩:ByteArray).data.toList (⟨#[c]⟩:ByteArray).data.toList=cutB c s from ziv c s]
theorem Itoa_ok{w:World}(hW:WX w)(n:Int)(h0: -9223372036854775808≤n)(h1:n≤9223372036854775807):Fn Tryz.prog 82 #[vi n] w (fun v w'=>v=vs (Lib.itoa n)∧Ext w w'):=
 Fn.of_calls (Calls.mono (Any.strconv_Itoa Tryz.laysM171 n h0 h1 w (hW.tab (by kernel_rfl))) fun _ _ ⟨he,k,os,hw⟩=>⟨_,he,rfl,hw▸Ext.grow w k os⟩)
/-! digits cut off both ends -/
def digs10:Lab:=[48,49,50,51,52,53,54,55,56,57]
theorem digs_has(c:UInt8):digs10.contains c=digB c:=by
 have:∀n,n<256→digs10.contains (UInt8.ofNat n)=digB (UInt8.ofNat n):=by decide+kernel
 have h:=this c.toNat c.toNat_lt
 rwa [UInt8.ofNat_toNat]at h
theorem zcA{α:Type}(p:α→Bool):∀l:List α,(l.dropWhile p=[])↔l.all p=true
 | []=>by simp
 |a::l=>by
  rw[List.dropWhile_cons]
  cases h:p a with
  |true=>simpa [h] using zcA p l
  |false=>simp[h]
theorem zeL(s:Lab):(Lib.trimS s digs10=[])↔s.all digB=true:=by
 have e:(fun b=>digs10.contains b)=digB:=funext digs_has
 unfold Lib.trimS Lib.trimLeftS Lib.trimRightS
 simp only[e]
 rw[zcA,List.all_eq_true,List.all_eq_true]
 constructor
 ·intro h x hx
  by_cases hd:digB x=true
  ·exact hd
  ·refine h x (List.mem_reverse.2 ?_)
   have key:∀l:Lab,x∈l→x∈l.dropWhile digB:=by
    intro l
    induction l with
    |nil=>intro h;cases h
    |cons a l ih=>
     intro hm
     rw[List.dropWhile_cons]
     split
     ·rename_i ha
      rcases List.mem_cons.1 hm with rfl|hm
      ·exact absurd ha hd
      ·exact ih hm
     ·exact hm
   exact key _ (List.mem_reverse.2 hx)
 ·intro h x hx
  have h1:=List.mem_reverse.1 hx
  exact h x (List.mem_reverse.1 ((List.dropWhile_sublist _).subset h1))
theorem Trim_ok(w:World)(s:Lab)(h0:s≠ [])(hs:s.length≤9000000000000000000):Fn Tryz.prog 134 #[vs s,vs digs10] w (fun v w'=>v=vs (Lib.trimS s digs10)∧Ext w w'):=by
 refine Fn.of_calls (Calls.mono (Any.strings_Trim_set Tryz.lays160 (zero_of_info (n:=256) (by kernel_rfl)).1 (by kernel_rfl) ⟨s.toArray⟩ ⟨digs10.toArray⟩ w (by decide) (show 0<s.toArray.size by simpa using List.length_pos_iff.2 h0) (show s.toArray.size≤_ by simp;omega) (by decide) (ascii_of_all (by decide))) ?_)
 rintro _ w' ⟨he,q,rfl⟩
 exact⟨_,he,rfl,((Ext.alloc w _).trans (Ext.alloc _ _)).trans (Ext.drewN _ q)⟩
section
variable {P : Program} {d : Option Tmp} {ty : TypeId} {ps : String} {af : Array Edge} {g : Option (Nat × Bool)} {ρ : Operand → Value} {w : World} {K : Value → World → Prop}
theorem zep{x y:Operand}{ts:Array TypeId}{u z v:Value}{w':World}(hx:ρ x=u)(hy:ρ y=z)(hr:(Builtin.copy_ ts ty #[u,z]).run P w= .ok v w')(h:K v w'):
  opW P ⟨d,.call ⟨.builtin .copy,#[x,y],ts⟩,ty,ps,af,g⟩ ρ w K:=by
 simp only[opW,execOp,Sem.run_bind,resolve]
 simp only[Sem.run_pure,Result.andThen_ok,invoke,builtin]
 exact zaq (s:=Builtin.copy_ ts ty (Array.map ρ #[x,y])) (by simpa [hx,hy] using hr) h
end
theorem Clone_ok(w:World)(s:Lab)(hs:s.length≤1000000000):Fn Tryz.prog 278 #[vs s] w (fun v w'=>v=vs s∧Ext w w'):=by
 refine enter Tryz.func278 Tryz.ntmps278 rfl rfl ?_
 refine go trivial ?_
 by_cases h0:s=[]
 ·subst h0
  refine wt (by decide:decide (((0:Nat):Int)=0)=true) ?_
  refine go trivial ?_
  refine rt0 Tryz.ntmps278 ?_
  exact⟨rfl,Keep.refl _ _⟩
 have hp:=List.length_pos_iff.2 h0
 have hd:decide ((s.length:Int)=0)=false:=decide_eq_false (by omega)
 refine wf hd ?_
 repeat refine c_r ?_
 refine rq ?_;intro gd K hgd hK
 try simp only[go_sem]
 refine zeZ (n:=s.length) rfl rfl rfl rfl (vq0) (vq0) (by show 1*_≤_;omega) (by omega) rfl ?_
 try simp only[go_sem]
 refine hK _ _ ?_;clear hK hgd;clear K;try clear gd
 repeat refine c_r ?_
 refine rq ?_;intro gd K hgd hK
 try simp only[go_sem]
 have hM:(madeCells #[Value.int .u8 0] s.length).size=s.length:=by simp[size_madeCells]
 refine zep (u:= .slice (some ⟨w.heap.size,0,Option.none⟩) s.length s.length) (z:=vs s) (vq0) (vq0)
  (Lib.run_copy_row_string (P:=Tryz.prog) _ _ _ _ 5 w.heap.size 0 s.length s.length ⟨s.toArray⟩ _ 5 rfl (by kernel_rfl) (World.alloc_heap_new w _) (by simp[ByteArray.size]) (by rw[hM];simp[ByteArray.size])) ?_
 rw[World.setRow_alloc_new]
 have hY:((madeCells #[Value.int .u8 0] s.length).toList.take 0++Lib.byteCells (⟨s.toArray⟩:ByteArray).data.toList++(madeCells #[Value.int .u8 0] s.length).toList.drop (0+(⟨s.toArray⟩:ByteArray).size)).toArray=(s.map zab).toArray:=by
  rw[List.take_zero,List.nil_append,List.drop_of_length_le (by rw[Array.length_toList,hM];simp[ByteArray.size]),List.append_nil]
  rfl
 rw[hY]
 try simp only[go_sem]
 refine hK _ _ ?_;clear hK hgd;clear K;try clear gd
 have hb:(w.alloc (.cells (s.map zab).toArray 5)).heap[w.heap.size]? =some (.cells (s.map zab).toArray 5 (0,0)):=World.alloc_heap_new w _
 have hz0:(0:Int)≤0:=Int.le_refl _
 have hl1:(0:Int)<(s.length:Int):=by omega
 repeat refine c_r ?_
 refine rq ?_;intro gd K hgd hK
 try simp (disch:=first|omega|assumption|rfl) only[go_sem,hz0,hl1,Int.toNat_zero,Nat.zero_mul,zal]
 refine zau (u:= .pointer (some ⟨w.heap.size,0,Option.none⟩)) (z:=vi s.length) (vq0) (vq0) (Lib.run_unsafeString_row (P:=Tryz.prog) _ _ _ _ 5 (by rfl) (by rfl) w.heap.size (s.map zab).toArray.size (by unfold World.shape?;rw[hb]) s h0 (by simp) (by omega) (fun j y hj=>Lib.cells_of_row hb (s.map zab).toArray.size j _ (by rw[List.take_of_length_le (by simp)];simp[hj,zab]))) ?_
 have hfk:=Keep.to_ext (Ext.alloc w (.cells (s.map zab).toArray 5)) rfl (fun b (hS:b=w.heap.size)=>by omega) (zcg (w.alloc (.cells (s.map zab).toArray 5)) ⟨w.heap.size,0,Option.none⟩ s.length)
 try simp only[go_sem]
 refine hK _ _ ?_;clear hK hgd;clear K;try clear gd
 repeat refine c_r ?_
 refine rt0 Tryz.ntmps278 ?_
 exact⟨rfl,hfk⟩
/-! where the number is too great:an error,whatever the variable holds -/
theorem zen(w:World)(f s:Lab)(hs:s.length≤1000000000)(hv:∃t p,w.cell? ⟨3,0,Option.none⟩=some (.iface t p)):
  Calls Tryz.prog 250 #[vs f,vs s] w (fun e w'=>(∃N,e= .returned (.pointer (some ⟨N,0,Option.none⟩)))∧Ext w w'):=by
 obtain⟨te,pe,hv⟩:=hv
 have hvd:w.drew.cell? ⟨3,0,Option.none⟩=some (.iface te pe):=hv
 have hG:3<w.heap.size:=World.block_lt_of_cell? (w:=w) (h:=hv)
 have mx:=mixed
 go_enter Tryz.func250,Tryz.ntmps250
 go_wp2
 go_region_with_o (
  go_at_call 278
  refine(Fn.calls (Clone_ok _ s hs)).mono ?_
  rintro e w2 ⟨_,rfl,rfl,hbel⟩
  have hv2:w2.cell? ⟨3,0,Option.none⟩=some (.iface te pe):=zb7 hbel hvd)
 all_goals (
  go_wp2
  go_ret
  exact⟨⟨_,rfl⟩,((Keep.drew NoS w).trans hbel).trans (Ext.alloc _ _)⟩)
theorem zgI(w:World)(f s:Lab)(hs:s.length≤1000000000)(hv:∃t p,w.cell? ⟨3,0,Option.none⟩=some (.iface t p)):
  Calls Tryz.prog 207 #[vs f,vs s,vi 10,vi 64,.iface 288 (.int .i64 1)] w (fun e w'=>(∃t p,e= .returned (.iface t p))∧Ext w w'):=by
 have mx:=mixed
 have hq12:∀W,(binOp .eql 108 (.iface 288 (.int .i64 1)) (.iface 288 (.int .i64 2))).run Tryz.prog W= .ok (.bool false) W:=fun W=>Lib.run_eql_iface_int W 1 2 Tryz.laysPu14.t24 Tryz.laysPu14.c34 Tryz.laysPu14.t34
 have hq11:∀W,(binOp .eql 108 (.iface 288 (.int .i64 1)) (.iface 288 (.int .i64 1))).run Tryz.prog W= .ok (.bool true) W:=fun W=>Lib.run_eql_iface_int W 1 1 Tryz.laysPu14.t24 Tryz.laysPu14.c34 Tryz.laysPu14.t34
 go_enter Tryz.func207,Tryz.ntmps207
 go_wp2_with (go_at_call 250;refine(zen _ f s hs hv).mono ?_)
 rintro e w2 ⟨⟨N,rfl⟩,hE⟩
 go_wp2
 go_ret
 exact⟨⟨_,_,rfl⟩,hE⟩
theorem zge{M:Nat}(hM:M=18446744073709551615):∀(l:Lab) (acc:Nat),l.all digB=true→acc≤M→
  (l.foldl (fun n c=>10*n+(c.toNat - 48)) acc≤M→Lib.parseUintM M acc l= .ok (l.foldl (fun n c=>10*n+(c.toNat - 48)) acc))∧(M<l.foldl (fun n c=>10*n+(c.toNat - 48)) acc→Lib.parseUintM M acc l= .range)
 | [],acc,_,ha=>⟨fun _=>rfl,fun h=>absurd h (by simpa using ha)⟩
 |c::l,acc,hd,ha=>by
  simp only[List.all_cons,Bool.and_eq_true]at hd
  have hc:=hd.1
  unfold digB at hc
  simp only[Bool.and_eq_true,decide_eq_true_eq]at hc
  have mono:∀(l:Lab) (a:Nat),a≤l.foldl (fun n c=>10*n+(c.toNat - 48)) a:=by
   intro l
   induction l with
   |nil=>exact fun a=>Nat.le_refl _
   |cons c l ih=>exact fun a=>Nat.le_trans (show a≤10*a+(c.toNat - 48) by omega) (ih _)
  have hm:=mono l (10*acc+(c.toNat - 48))
  rw[List.foldl_cons]
  unfold Lib.parseUintM
  rw[if_pos hc,Nat.mul_comm acc 10]
  by_cases h1:M<10*acc+(c.toNat - 48)
  ·refine⟨fun h=>by omega,fun _=>?_⟩
   rw[if_pos h1]
   split<;>rfl
  ·by_cases h2:1844674407370955162≤acc
   ·omega
   rw[if_neg h2,if_neg h1]
   exact zge hM l _ hd.2 (by omega)
theorem zfr{w:World}(hW:WX w)(s:Lab)(h0:s≠ [])(hd:s.all digB=true)(hs:s.length≤1000000000):
  Fn Tryz.prog 135 #[vs s,vi 10,vi 64] w (fun v w'=>(if valD s≤18446744073709551615 then v= .tuple #[.int .u64 (valD s),.nilIface] else∃n t p,v= .tuple #[.int .u64 n,.iface t p])∧Ext w w'):=by
 have hm:(2:Nat) ^ 64 - 1=18446744073709551615:=by decide
 obtain⟨p1,p2⟩:=zge (M:=2 ^ 64 - 1) hm s 0 hd (Nat.zero_le _)
 have hsz:(⟨s.toArray⟩:ByteArray).size≤9223372036854775806:=by show s.toArray.size≤_;simp;omega
 by_cases hv:valD s≤18446744073709551615
 ·have e1:Lib.parseUintB 64 (⟨s.toArray⟩:ByteArray).data.toList= .ok (valD s):=by
   unfold Lib.parseUintB
   rw[if_neg (by simpa using h0)]
   exact p1 (by rw[hm];exact hv)
  refine Fn.of_calls (Calls.mono (Any.strconv_ParseUint_10_at64_ok Tryz.laysPu14 ⟨s.toArray⟩ hsz _ e1 w) ?_)
  rintro _ w' ⟨rfl,h⟩
  refine⟨_,rfl,by rw[if_pos hv],?_⟩
  rcases h with rfl|rfl
  ·exact Keep.refl _ _
  ·exact Ext.bytes _ _ _
 ·have e1:Lib.parseUintB 64 (⟨s.toArray⟩:ByteArray).data.toList= .range:=by
   unfold Lib.parseUintB
   rw[if_neg (by simpa using h0)]
   exact p2 (by rw[hm];exact Nat.lt_of_not_le hv)
  have hI:=AnyPu.internal_strconv_ParseUint_10_at64 {Tryz.laysPu14 with} ⟨s.toArray⟩ hsz w
  rw[e1]at hI
  have hI:Calls Tryz.prog 206 #[vs s,.int .i64 10,.int .i64 64] w fun e w'=>e= .returned (.tuple #[.int .u64 18446744073709551615,.iface 288 (.int .i64 1)])∧(w'=w∨w'=Lib.bytesWorld w 5 ⟨s.toArray⟩):=hI
  refine Fn.of_calls ?_
  simp only[if_neg hv]
  go_enter Tryz.func135,Tryz.ntmps135
  go_wp2_with (go_at_call 206;refine hI.mono ?_)
  rintro e W1 rfl hw
  have hE1:Ext w W1:=by
   rcases hw with rfl|rfl
   ·exact Keep.refl _ _
   ·exact Ext.bytes _ _ _
  clear hw
  have hW1:=hW.ext hE1
  go_wp2_with (go_at_call 207;refine(zgI _ [80,97,114,115,101,85,105,110,116] s hs hW1.er).mono ?_)
  rintro e W2 ⟨⟨t,p,rfl⟩,hE2⟩
  go_wp2
  go_ret2
  exact⟨_,rfl,⟨_,_,_,rfl⟩,hE1.trans hE2⟩
theorem Bld.mono{B B':Nat}{w:World}{b:Nat}{bs:List UInt8}(h:Bld B w b bs)(hB:B'≤B):Bld B' w b bs:=by
 obtain⟨p,v,h1,h2,h3⟩:=h.ex
 exact⟨p,v,h1,h2,h3.mono hB⟩
theorem zhj(w:World)(n:Nat)(hn:n≤100000000000):extC Tryz.prog 231 #[vi n] w (fun v w'=>∃cs:Array Value,v= .slice (some ⟨w.heap.size,0,Option.none⟩) n cs.size∧w'=w.drew.drew.alloc (.cells cs 5 (0,0))∧n≤cs.size∧cs.size≤maxLen):=by
 obtain⟨cs,hrun,hle,hmax⟩:=Lib.run_makeNoZero (P:=Tryz.prog) w #[3] 31 5 rfl n (by omega)
 refine⟨_,_,?_,cs,rfl,rfl,hle,hmax (by unfold maxLen;omega)⟩
 rw[run_callFunc_extern Tryz.func231 (by kernel_rfl) (by kernel_rfl) (by kernel_rfl) (e:=Extern.BytealgMakeNoZero.makeNoZero #[3] #[31]) (by kernel_rfl),hrun]
 rfl
section
variable {P : Program} {d : Option Tmp} {ty : TypeId} {ps : String} {af : Array Edge} {g : Option (Nat × Bool)} {ρ : Operand → Value} {w : World} {K : Value → World → Prop}
theorem v_cap(a:Array Operand)(t:Array TypeId):opV P ⟨d,.call ⟨.builtin .cap,a,t⟩,ty,ps,af,g⟩ ρ w K=opL P ⟨d,.call ⟨.builtin .cap,a,t⟩,ty,ps,af,g⟩ ρ w K .mk:=nr rfl
theorem op_cap{x:Operand}{t e:TypeId}{a:Option Addr}{n c:Nat}(ht:tyU P t=some (.slice e))(hx:ρ x= .slice a n c)(h:K (vi c) w):opW P ⟨d,.call ⟨.builtin .cap,#[x],#[t]⟩,ty,ps,af,g⟩ ρ w K:=by
 simp only[opW,execOp,Sem.run_bind,resolve]
 simp only[Sem.run_pure,Result.andThen_ok,invoke,builtin]
 refine zaq (s:=Builtin.cap_ #[t] ty (Array.map ρ #[x])) (v:=vi c) (w':=w) ?_ h
 simp[Builtin.cap_,hx,run_underlying (show P.underlying t=_ from ht),goInt]
end
attribute [go_sem ↓] v_cap
theorem zgU{w:World}{b n:Nat}(hb:w.heap[b]? =some (.cells #[.pointer (some ⟨b,0,Option.none⟩),.slice Option.none 0 0] 106 (0,0)))(hn:n≤100000000000):
  Fn Tryz.prog 190 #[.pointer (some ⟨b,0,Option.none⟩),vi n] w (fun _ w'=>Bld w.heap.size w' b []∧Keep (fun i=>i=b∨w.heap.size≤i) w w'):=by
 refine enter Tryz.func190 Tryz.ntmps190 rfl rfl ?_
 repeat refine c_r ?_
 refine zaU (fun _=>false) [(0,true),(1,true),(2,true),(3,true),(6,true),(9,true),(10,true),(11,true),(12,true),(13,true),(4,false),(5,true),(7,true),(8,false),(14,true),(15,true)] (zcn w.heap.size) mixed (by kernel_rfl) ?_;intro gd K x hgd hx hxe hK;have hx0:=za0 hxe;clear hxe
 have c1:zag x (some ⟨b,1,Option.none⟩)=some (.slice Option.none 0 0):=zaK (Ext.at hx0 hb) rfl
 simp (disch:=first|omega|assumption|rfl) only[go_sem,c1]
 have hbs:b<w.heap.size:=(Array.getElem?_eq_some_iff.1 hb).1
 refine⟨za8 hbs,za8 hbs,?_⟩
 refine op_cap rfl (vr0) ?_
 refine⟨.inr (Keep.refl _ _),?_⟩
 simp (disch:=first|omega|assumption|rfl) only[go_sem,c1]
 rw[show (2:Int)*((0:Nat):Int)+(n:Int)=(n:Int) by omega]
 obtain⟨_,y1,hr,cs,rfl,hy,hle,hmx⟩:=zhj x n hn
 have hEy:Ext x y1:=hy▸((Keep.drew NoS x).trans (Keep.drew NoS _)).trans (Ext.alloc _ _)
 refine⟨_,y1,hr,.inr hEy.keep,?_⟩
 have c2:zag y1 (some ⟨b,1,Option.none⟩)=some (.slice Option.none 0 0):=zaK (Ext.at (hx0.trans hEy) hb) rfl
 have hnew:y1.heap[x.heap.size]? =some (.cells cs 5 (0,0)):=by rw[hy];exact zaB _ _
 have hsy:y1.heap.size=x.heap.size+1:=by rw[hy];exact zaz _ _
 have z0:(0:Int)≤((0:Nat):Int):=by omega
 simp (disch:=first|omega|assumption|rfl) only[go_sem,c2,z0,ite_self,Nat.sub_zero]
 refine hK _ _ ?_;clear hK hgd;clear K;try clear gd
 repeat refine c_r ?_
 refine rq ?_;intro gd K hgd hK
 try simp (disch:=first|omega|assumption|rfl) only[go_sem,c2]
 refine zep (u:= .slice (some ⟨x.heap.size,0,Option.none⟩) 0 cs.size) (z:= .slice Option.none 0 0) (vr0) (vr0) (run_copy_none _ _ _ _ 5 _ _ _ _ _ _ (by kernel_rfl) (by kernel_rfl) rfl) ?_
 try simp only[go_sem]
 refine hK _ _ ?_;clear hK hgd;clear K;try clear gd
 repeat refine c_r ?_
 refine rq ?_;intro gd K hgd hK
 try simp only[go_sem]
 refine zdq (P:=Tryz.prog) (t:=31) (j:=1) (l:=[.pointer (some ⟨b,0,Option.none⟩),.slice Option.none 0 0]) (Ext.at (hx0.trans hEy) hb) (by simp) rfl rfl rfl ?_
 intro w3 hs3 hb3 hk3
 try simp only[go_sem]
 refine hK _ _ ?_;clear hK hgd;clear K;try clear gd
 repeat refine c_r ?_
 have hsx:=hx0.size
 have hn3:w3.heap[x.heap.size]? =some (.cells cs 5 (0,0)):=(hk3.block _ (by rw[hsy];omega) (fun h=>by have h:x.heap.size=b:=h;omega)).trans hnew
 refine zaf (.inl rfl) Tryz.ntmps190 rfl zae ?_
 refine⟨⟨⟨_,_,.inr rfl,by simpa using hb3,⟨rfl,.inr ⟨x.heap.size,cs.size,cs,rfl,hsx,hn3,Nat.zero_le _,hmx,by simp,rfl⟩⟩⟩⟩,?_⟩
 exact(((hx0.trans hEy).mono (fun i _ h=>h.elim)).trans (hk3.mono (fun i _ h=> .inl h)))
theorem zhl{w:World}{b n:Nat}(hb:w.heap[b]? =some (.cells #[.pointer Option.none,.slice Option.none 0 0] 106 (0,0)))(hn:n≤100000000000):
  Fn Tryz.prog 121 #[.pointer (some ⟨b,0,Option.none⟩),vi n] w (fun _ w'=>Bld w.heap.size w' b []∧Keep (fun i=>i=b∨w.heap.size≤i) w w'):=by
 have hbs:b<w.heap.size:=(Array.getElem?_eq_some_iff.1 hb).1
 have d0:decide ((n:Int)<0)=false:=decide_eq_false (by omega)
 refine enter Tryz.func121 Tryz.ntmps121 rfl rfl ?_
 repeat refine c_r ?_
 refine rq ?_;intro gd K hgd hK
 try simp only[go_sem]
 refine Fn.mono (zbx (.inl rfl) hb) ?_
 rintro _ w1 ⟨hb1,hk1,hs1⟩
 try simp only[go_sem]
 refine hK _ _ ?_;clear hK hgd;clear K;try clear gd
 refine go d0 ?_
 have hb1s:b<w1.heap.size:=by omega
 refine zaU (fun _=>false) [(0,true),(1,true),(2,true),(3,true),(5,true),(6,true),(7,true),(8,true),(9,true),(11,true),(4,false),(10,true),(12,true)] (zcn w1.heap.size) mixed (by kernel_rfl) ?_;intro gd K x hgd hx hxe hK;have hx0:=za0 hxe;clear hxe
 have hbx:=Ext.at hx0 hb1
 have c1:zag x (some ⟨b,1,Option.none⟩)=some (.slice Option.none 0 0):=zaK hbx rfl
 simp (disch:=first|omega|assumption|rfl) only[go_sem,c1]
 refine⟨za8 hb1s,za8 hb1s,?_⟩
 refine op_cap rfl (vr0) ?_
 refine⟨.inr (Keep.refl _ _),?_⟩
 simp (disch:=first|omega|assumption|rfl) only[go_sem,c1]
 refine hK _ _ ?_;clear hK hgd;clear K;try clear gd
 repeat refine c_r ?_
 have hkx:Keep (fun i=>i=b∨w.heap.size≤i) w x:=(hk1.mono fun i _ h=> .inl h).trans (hx0.mono fun i _ h=>h.elim)
 have hsx:=hx0.size
 refine wc0 ?_ ?_
 ·intro _
  refine go trivial ?_
  refine rc trivial (zgU hbx hn) ?_
  rintro _ w3 ⟨hB,hk3⟩
  refine rgo trivial ?_
  refine zaf (.inl rfl) Tryz.ntmps121 rfl zae ?_
  exact⟨hB.mono (by omega),hkx.trans (hk3.mono fun i _ h=>h.imp id fun h=>by omega)⟩
 ·intro _
  refine go trivial ?_
  refine zaf (.inl rfl) Tryz.ntmps121 rfl zae ?_
  exact⟨⟨⟨_,_,.inr rfl,hbx,Own.nil _ _ _⟩⟩,hkx⟩
section
variable {P : Program} {x : World} {e : TypeId} {K : Value → World → Prop}
theorem zbg{t:TypeId}{cur:Array Value}{l:List Value}(hl:l.length=cur.size)(h1:∀v∈l,one v=true)(hs:tyS P t=l.length)(hi:(P.info? t).isSome=true)
  (hK:∀w',Ext x w'→w'.heap.size=x.heap.size+1→w'.heap[x.heap.size]? =some (.cells l.toArray e (0,0))→K undef w'):stK P t (.pointer (some ⟨x.heap.size,0,Option.none⟩)) (.agg l.toArray) (x.alloc (.cells cur e (0,0))) K:=by
 have hB3:=zaB x (.cells cur e (0,0))
 have hE4:=Ext.alloc x (.cells cur e (0,0))
 have hs4:=zaz x (.cells cur e (0,0))
 refine za1 (P:=P) (t:=t) (l:=l) hB3 hl h1 hs hi ?_
 intro w5 hs5 hB5 hk5
 exact hK w5 (Keep.to_ext hE4 rfl (fun b hb=>by omega) hk5) (by omega) hB5
theorem Row.isOne{w:World}{v:Value}{l:List Value}(h:Row w v l):one v=true:=by
 obtain⟨a,c,rfl,_⟩:=h;rfl
theorem Rows.isOne{α:Type}{k:Nat}{C:List Value→α→Prop}{w:World}{v:Value}{l:List α}(h:Rows k C w v l):one v=true:=by
 obtain⟨a,c,rfl,_⟩:=h.open;rfl
end
def TyC(cs:List Value)(x:Int×Lab):Prop:=cs=[vi x.1,vs x.2]
theorem TyC.shape:zeD 2 TyC:=⟨fun h=>by rw[h];rfl,fun h=>by
 rw[h]
 intro q hq
 rcases List.mem_cons.1 hq with rfl|hq
 ·rfl
 ·rw[List.mem_singleton.1 hq];rfl⟩
def tyTab:List (Int×Lab):=[(1,[65]),(2,[78,83]),(5,[67,78,65,77,69]),(6,[83,79,65]),(12,[80,84,82]),(15,[77,88]),(16,[84,88,84]),(28,[65,65,65,65]),(39,[68,78,65,77,69])]
def zez(k:Int):List (Int×Lab)→Lab×Bool
 | []=>([],false)
 |x::T=>if x.1=k then(x.2,true) else zez k T
theorem bs_tab{P:Program}{t e:TypeId}{parts:List (Nat×Value)}{w:World}{K:Value→World→Prop}(hC:bsC P t 9 parts=some (e,(tyTab.flatMap fun x=>[vi x.1,vs x.2]).toArray))
  (h:∀w1,Ext w w1→Rows 2 TyC w1 (.slice (some ⟨w.heap.size,0,Option.none⟩) 9 9) tyTab→K (.slice (some ⟨w.heap.size,0,Option.none⟩) 9 9) w1):bsL P t 9 parts w K .mk:=by
 unfold bsL bsK
 rw[hC]
 refine h _ (Ext.alloc w _) (Rows.close (xs:=tyTab) (c:=9) (by decide) fun i hi=>?_)
 have hb:=zaB w (.cells (tyTab.flatMap fun x=>[vi x.1,vs x.2]).toArray e (0,0))
 have hi9:i<9:=hi
 match i,hi9 with
 |0,_=>exact⟨_,zaC (o:=0) (k:=2) hb (by decide),rfl⟩
 |1,_=>exact⟨_,zaC (o:=2) (k:=2) hb (by decide),rfl⟩
 |2,_=>exact⟨_,zaC (o:=4) (k:=2) hb (by decide),rfl⟩
 |3,_=>exact⟨_,zaC (o:=6) (k:=2) hb (by decide),rfl⟩
 |4,_=>exact⟨_,zaC (o:=8) (k:=2) hb (by decide),rfl⟩
 |5,_=>exact⟨_,zaC (o:=10) (k:=2) hb (by decide),rfl⟩
 |6,_=>exact⟨_,zaC (o:=12) (k:=2) hb (by decide),rfl⟩
 |7,_=>exact⟨_,zaC (o:=14) (k:=2) hb (by decide),rfl⟩
 |8,_=>exact⟨_,zaC (o:=16) (k:=2) hb (by decide),rfl⟩
theorem zhv(w:World):Fn Tryz.prog 126 #[] w (fun v w'=>Rows 2 TyC w' v tyTab∧Ext w w'):=by
 refine enter Tryz.func126 Tryz.ntmps126 rfl rfl ?_
 refine go trivial ?_
 refine rq ?_;intro gd K hgd hK
 try simp only[go_sem]
 iterate 9
  refine⟨by kernel_rfl,?_⟩
  rw[show ∀n s,bdV Tryz.prog 245 [(0,vi n),(1,.string s)]=some (.agg #[vi n,.string s]) from fun n s=>by kernel_rfl]
  try simp only[go_sem]
 refine bs_tab (e:=245) (by kernel_rfl) ?_
 intro w1 hE1 hR
 try simp only[go_sem]
 refine hK _ _ ?_;clear hK hgd;clear K;try clear gd
 repeat refine c_r ?_
 refine rt0 Tryz.ntmps126 ?_
 exact⟨hR,hE1⟩
theorem find_ok{w:World}{v:Value}{T:List (Int×Lab)}(h:Rows 2 TyC w v T)(hT:T.length≤1000)(k:Int):
  Fn Tryz.prog 125 #[v,vi k] w (fun u w'=>u= .tuple #[vs (zez k T).1,.bool (zez k T).2]∧Ext w w'):=by
 obtain⟨a,c,rfl,hc,hg⟩:=h.open
 refine enter Tryz.func125 Tryz.ntmps125 rfl rfl ?_
 refine go trivial ?_
 refine zbq T.length (fun i σ x=>σ 9= .slice a T.length c∧σ 10=vi T.length∧σ 11=vi i∧σ 1=vi k∧zez k T=zez k (T.drop i)∧Ext w x) ?_ ?_ ?_
 ·exact⟨vr0,vr0,vr0,vr0,rfl,Keep.refl _ _⟩
 ·rintro i σ x hi p ⟨h9,h10,h11,h1,hf,hE⟩
  obtain⟨cs,g0,hcs⟩:=hg i hi
  have g:=zai hE g0
  obtain⟨y,hy⟩:∃y,T[i]=y:=⟨_,rfl⟩
  rw[hy]at hcs
  have hcs:cs=[vi y.1,vs y.2]:=hcs
  subst hcs
  obtain⟨xa,rfl⟩:=Option.isSome_iff_exists.1 (zaF g)
  obtain⟨xi,hxi⟩:∃xi,adr (some xa) (i*2)=some xi:=⟨_,rfl⟩
  rw[hxi]at g
  have hi0:(0:Int)≤(i:Int):=by omega
  have hi1:(i:Int)<(T.length:Int):=by omega
  have hi2:(i:Int)+1=((i+1:Nat):Int):=by push_cast;rfl
  refine go (an4 h9 h10 h11 p) ?_
  refine rq ?_;intro gd K hgd hK
  try simp (disch:=first|omega|assumption|rfl) only[go_sem,h9,h11,hi0,hi1,hxi,g]
  refine zbg (P:=Tryz.prog) (l:=[vi y.1,vs y.2]) rfl ?_ rfl rfl ?_
  ·exact TyC.shape.ones (a:=y) rfl
  intro x1 hE1 hs1 hB1
  try simp only[go_sem]
  refine hK _ _ ?_;clear hK hgd;clear K;try clear gd
  have p0:=zaK (l:=[vi y.1,vs y.2]) (j:=0) hB1 rfl
  have p1:=zaK (l:=[vi y.1,vs y.2]) (j:=1) hB1 rfl
  rw[List.drop_eq_getElem_cons hi,hy]at hf
  by_cases he:y.1=k
  ·refine go (an5 p0 p1 h1 (decide_eq_true he) (Nat.zero_add 1)) ?_
   refine zaf (.inr rfl) Tryz.ntmps125 rfl (zac (v:=vs y.2) (vr0) (zac (v:= .bool true) (vr0) zae)) ?_
   rw[hf]
   unfold zez
   rw[if_pos he]
   exact⟨rfl,hE.trans hE1⟩
  ·refine go (an8 p0 h1 (decide_eq_false he) h9 h10 h11 hi2 p) ?_
   refine⟨rfl,(vq1 h9),(vq1 h10),vq0,(vq1 h1),?_,hE.trans hE1⟩
   rw[hf]
   show(if y.1=k then _ else _)=_
   rw[if_neg he]
 ·rintro σ x p ⟨h9,h10,h11,h1,hf,hE⟩
  refine go (an4 h9 h10 h11 p) ?_
  refine zaf (.inr rfl) Tryz.ntmps125 rfl (zac (v:=vs []) (vr0) (zac (v:= .bool false) (vr0) zae)) ?_
  rw[hf,List.drop_length]
  exact⟨rfl,hE⟩
theorem ziF(w:World)(k:Int):Fn Tryz.prog 151 #[vi k] w (fun u w'=>u= .bool (zez k tyTab).2∧Ext w w'):=by
 refine enter Tryz.func151 Tryz.ntmps151 rfl rfl ?_
 refine go trivial ?_
 refine rc trivial (zhv w) ?_
 rintro v w1 ⟨hR,hE1⟩
 refine rd trivial (find_ok hR (by decide) k) ?_
 rintro _ w2 ⟨rfl,hE2⟩
 refine rgo trivial ?_
 refine rt0 Tryz.ntmps151 ?_
 exact⟨rfl,hE1.trans hE2⟩
def za6(sep:Lab):List Lab→Lab
 | []=>[]
 |x::r=>x++r.flatMap fun y=>sep++y
def zas(xs:List Lab):Nat:=(xs.map List.length).sum
theorem zd5{xs:List Lab}{i:Nat}(h:i<xs.length):zas (xs.take (i+1))=zas (xs.take i)+xs[i].length:=by
 unfold zas;rw[zan h,List.map_append,List.sum_append];simp
theorem zdi{xs:List Lab}(i:Nat):zas (xs.take i)≤zas xs:=by
 have h:=congrArg zas (List.take_append_drop i xs)
 unfold zas at*
 rw[List.map_append,List.sum_append]at h
 omega
theorem zev(sep:Lab)(r:List Lab):(r.flatMap fun y=>sep++y).length=sep.length*r.length+zas r:=by
 induction r with
 |nil=>simp[zas]
 |cons y r ih=>
  have:zas (y::r)=y.length+zas r:=by simp[zas]
  rw[List.flatMap_cons,List.length_append,List.length_append,ih,List.length_cons,this,Nat.mul_succ];omega
theorem zf2{w:World}{v:Value}{xs:List Lab}(h:Row w v (xs.map vs)){sep:Lab}(hx:xs.length≤1000000)(hs:1≤sep.length)(hs2:sep.length≤1000)(hl:zas xs≤1000000000):
  Fn Tryz.prog 58 #[v,vs sep] w (fun u w'=>u=vs (za6 sep xs)∧Ext w w'):=by
 obtain⟨a,c,rfl,hc,hg⟩:=h
 rw[List.length_map]at hc
 rw[List.length_map]
 obtain⟨L,hL⟩:∃L,xs.length=L:=⟨_,rfl⟩
 have hgx:∀i (hi:i<xs.length),zag w (adr a i)=some (vs xs[i]):=fun i hi=>by
  have:=hg i (by rw[List.length_map];exact hi)
  rw[List.getElem_map]at this
  exact this
 refine enter Tryz.func58 Tryz.ntmps58 rfl rfl ?_
 by_cases h0:L=0
 ·have hx0:xs=[]:=List.length_eq_zero_iff.1 (by omega)
  subst hx0
  refine go (show decide (((0:Nat):Int)=0)=true from rfl) ?_
  refine rt0 Tryz.ntmps58 ?_
  exact⟨rfl,Keep.refl _ _⟩
 have hL0:0<xs.length:=by omega
 have g0:=hgx 0 hL0
 obtain⟨xa,rfl⟩:=Option.isSome_iff_exists.1 (zaj g0)
 rw[zal]at g0
 have d0:decide ((L:Int)=0)=false:=decide_eq_false (by omega)
 have z0:(0:Int)≤0:=by decide
 have zL:(0:Int)<(L:Int):=by omega
 have t0:(0:Int).toNat=0:=rfl
 rw[hL]at hc ⊢
 obtain⟨x,r,hxr⟩:∃x r,xs=x::r:=by
  cases xs with
  |nil=>simp at hL0
  |cons x r=>exact⟨x,r,rfl⟩
 have hx0:xs[0]=x:=by simp only[hxr];rfl
 rw[hx0]at g0
 by_cases h1:L=1
 ·have hr:r=[]:=by rw[hxr]at hL;simp at hL;exact List.length_eq_zero_iff.1 (by omega)
  have d1:decide ((L:Int)=1)=true:=decide_eq_true (by omega)
  refine go (an7 d0 d1 z0 zL t0 zal g0) ?_
  refine zaf (.inr rfl) Tryz.ntmps58 rfl (zac (v:=vs x) (vr0) zae) ?_
  rw[hxr,hr,show za6 sep [x]=x by simp[za6]]
  exact⟨rfl,Keep.refl _ _⟩
 have d1:decide ((L:Int)=1)=false:=decide_eq_false (by omega)
 obtain⟨M,hM⟩:∃M,sep.length*(L - 1)=M:=⟨_,rfl⟩
 have hM1:M≤1000*1000000:=hM▸Nat.mul_le_mul hs2 (by omega)
 have dS:decide ((0:Int)<(sep.length:Int))=true:=decide_eq_true (by omega)
 have e1:(L:Int) - 1=((L - 1:Nat):Int):=by omega
 obtain⟨q,hq⟩:∃q,9223372036854775807 / (L - 1)=q:=⟨_,rfl⟩
 have hq1:1001≤q:=by rw[←hq,Nat.le_div_iff_mul_le (by omega)];omega
 have hq2:q≤9223372036854775807:=by rw[←hq];exact Nat.div_le_self _ _
 have e2:(9223372036854775807:Int).tdiv ((L - 1:Nat):Int)=(q:Int):=by
  rw[Int.tdiv_eq_ediv_of_nonneg (by omega),←hq,Int.natCast_ediv];rfl
 have nz:¬((L - 1:Nat):Int)=0:=by omega
 have d2:decide ((q:Int)≤(sep.length:Int))=false:=decide_eq_false (by omega)
 have e3:IntKind.i64.wrap ((sep.length:Int)*((L - 1:Nat):Int))=(M:Int):=by
  rw[←Int.natCast_mul,hM]
  exact wrap64 (by omega) (by omega)
 refine go (an8 d0 d1 dS e1 e2 nz d2 e3) ?_
 refine zbq L (fun i σ v=>σ 0= .slice (some xa) L c∧σ 1=vs sep∧σ 5=vi (M+zas (xs.take i):Nat)∧σ 39= .slice (some xa) L c∧σ 40=vi L∧σ 41=vi i∧w=v) ?_ ?_ ?_
 ·have hM0:(0:Int)+(M:Int)=((M+zas (xs.take 0):Nat):Int):=by simp[zas]
  exact⟨vr0,vr0,(vq1 hM0),vr0,vr0,vr0,rfl⟩
 ·rintro i σ v hi p ⟨s0,s1,s5,s39,s40,s41,rfl⟩
  have hi':i<xs.length:=by omega
  have g:=hgx i hi'
  have ht:=zd5 hi'
  have hle:=zdi (xs:=xs) (i+1)
  obtain⟨y,hy⟩:∃y,xs[i]=y:=⟨_,rfl⟩
  rw[hy]at g ht
  obtain⟨N,hN⟩:∃N,M+zas (xs.take i)=N:=⟨_,rfl⟩
  rw[hN]at s5
  have hN2:M+zas (xs.take (i+1))=N+y.length:=by omega
  have hi0:(0:Int)≤(i:Int):=by omega
  have hi1:(i:Int)<(L:Int):=by omega
  have hi2:(i:Int)+1=((i+1:Nat):Int):=by push_cast;rfl
  have d3:decide ((9223372036854775807:Int) - (N:Int)<(y.length:Int))=false:=decide_eq_false (by omega)
  have e4:(N:Int)+(y.length:Int)=((N+y.length:Nat):Int):=by omega
  refine go (an9 s0 s1 s5 s39 s40 s41 p g (an4 hi0 hi1 d3 e4)) ?_
  refine⟨rfl,(vq1 s0),(vq1 s1),(vq1 hN2),(vq1 s39),(vq1 s40),(vq1 hi2),rfl⟩
 rintro σ v p ⟨s0,s1,s5,s39,s40,s41,rfl⟩
 have hlt:=zdi (xs:=xs) L
 refine go (an5 s39 s40 s41 p s0) ?_
 refine zap ?_
 intro w1 hE1 hs1 hA
 refine rc s5 (zhl (n:=M+zas (xs.take L)) hA (by omega)) ?_
 rintro _ w2 ⟨hB2,hk2⟩
 have hEv:Ext w w2:=Keep.to_ext hE1 rfl (fun b hb=>by omega) hk2
 have hs2':=hk2.size
 have g2:=zaa hEv g0
 have hlx:zas xs=x.length+zas r:=by rw[hxr];simp[zas]
 have hrL:r.length=L - 1:=by rw[hxr]at hL;simp at hL;omega
 refine rgo s0 ?_
 refine rc (an7 s0 z0 zL t0 zal g2 s1) (zaN (s:=x) hB2 (by omega) (by simp;omega)) ?_
 rintro _ w3 ⟨hB3,hk3⟩
 have hE3:Ext w w3:=Keep.to_ext hEv rfl (fun b hb=>by omega) hk3
 have hs3:=hk3.size
 obtain⟨y1,hy1⟩:∃y1,adr (some xa) 1=some y1:=⟨_,rfl⟩
 have z1:(0:Int)≤1:=by decide
 have zl1:(1:Int)≤(L:Int):=by omega
 have t1:(1:Int).toNat=1:=rfl
 have hce:(if c=1 then some xa else some y1)=some y1:=if_neg (by omega)
 refine rgo (an7 s0 s1 z1 zl1 t1 hce hy1) ?_
 have hjl:=zev sep
 have hsr:sep.length*r.length=M:=by rw[hrL,hM]
 refine zbq (L - 1) (fun i σ v=>σ 1=vs sep∧σ 8= .pointer (some ⟨w.heap.size,0,Option.none⟩)∧σ 63= .slice (some y1) (L - 1) (c - 1)∧σ 64=vi (L - 1:Nat)∧σ 65=vi i∧Ext w v∧w1.heap.size≤v.heap.size∧Bld w1.heap.size v w.heap.size (x++(r.take i).flatMap fun y=>sep++y)) ?_ ?_ ?_
 ·exact⟨(vq1 s1),vr0,vr0,vr0,vr0,hE3,by omega,by simpa using hB3⟩
 ·rintro i σ v hi p ⟨s1,s8,s63,s64,s65,hE,hsv,hB⟩
  have hir:i<r.length:=by omega
  have g:=zaa hE (hgx (i+1) (by omega))
  have hxi:xs[i+1]'(by omega)=r[i]:=by simp only[hxr];rfl
  rw[hxi]at g
  have g':zag v (adr (some y1) i)=some (vs r[i]):=by rw[←hy1,zdS,Nat.add_comm];exact g
  have hi0:(0:Int)≤(i:Int):=by omega
  have hi1:(i:Int)<((L - 1:Nat):Int):=by omega
  have hi2:(i:Int)+1=((i+1:Nat):Int):=by push_cast;rfl
  have hlr:zas (r.take i)≤zas r:=zdi i
  have hri:r[i].length≤zas r:=by
   have h1:=zd5 hir
   have h2:=zdi (xs:=r) (i+1)
   omega
  have hfl:=hjl (r.take i)
  have htl:(r.take i).length=i:=by rw[List.length_take];omega
  have hsi:sep.length*i≤M:=by rw[←hM];exact Nat.mul_le_mul_left _ (by omega)
  rw[htl]at hfl
  refine go (an9 s1 s8 s63 s64 s65 p g' hi0 hi1) ?_
  refine rc (an2 s1 s8) (zaN (s:=sep) hB hsv (by simp only[List.length_append];omega)) ?_
  rintro _ v1 ⟨hB1,hk1⟩
  have hsv1:=hk1.size
  refine rgo trivial ?_
  refine rc (an2 s1 s8) (zaN (s:=r[i]) hB1 (by omega) (by simp only[List.length_append];omega)) ?_
  rintro _ v2 ⟨hB2',hk2'⟩
  have hsv2:=hk2'.size
  refine rgo (an5 s1 s8 s63 s64 (an2 s65 hi2)) ?_
  refine⟨rfl,(vq1 s1),(vq1 s8),(vq1 s63),(vq1 s64),(vq1 hi2),Keep.to_ext hE rfl (fun b hb=>by omega) (hk1.trans hk2'),by omega,?_⟩
  rw[zan hir,List.flatMap_append,List.flatMap_singleton]
  simpa [List.append_assoc] using hB2'
 ·rintro σ v p ⟨s1,s8,s63,s64,s65,hE,hsv,hB⟩
  rw[←hrL,List.take_length]at hB
  have hfl:=hjl r
  refine go (an4 s63 s64 s65 p) ?_
  refine rc s8 (zbW hB (by simp only[List.length_append];omega)) ?_
  rintro _ v1 ⟨rfl,hk1⟩
  refine rgo trivial ?_
  refine rt0 Tryz.ntmps58 ?_
  rw[hxr]
  exact⟨rfl,Keep.to_ext hE rfl (fun b hb=>by omega) hk1⟩
theorem i_str0(k:IntKind)(c:UInt8)(r:Lab):ixSD (some .string) (vs (c::r)) (.int k 0)=some (.int .u8 c.toNat):=(zgT (Int.le_refl _) (by simp)).trans rfl
attribute [go_sem] i_str0
section
variable {P : Program} {d : Option Tmp} {ty : TypeId} {ps : String} {af : Array Edge} {g : Option (Nat × Bool)} {ρ : Operand → Value} {w : World} {K : Value → World → Prop}
theorem zdB(alt:Prop)(m:Lck K alt):optL Option.none w K alt m=alt:=rfl
theorem zfF{t yt:TypeId}{x:Operand}{u:Value}{b:Bool}(ht:P.underlying t=some (.interface (P.methodsAt t)))(hu:(u= .nilIface∧b=false)∨((∃k p,u= .iface k p)∧b=true))(hx:ρ x=u)(hn:ρ (.const .nilIface)= .nilIface)(h:K (.bool b) w):
  opW P ⟨d,.binOp .neq t x (.const .nilIface) yt,ty,ps,af,g⟩ ρ w K:=by
 have hr:(do eqGuard .neq t x (.const .nilIface) u .nilIface;binOp .neq t u .nilIface:Sem Value).run P w= .ok (.bool b) w:=by
  rcases hu with ⟨rfl,rfl⟩| ⟨⟨k,p,rfl⟩,rfl⟩
  ·simp[Sem.run,eqGuard,run_neq_nil_nil w t ht]
  ·simp[Sem.run,eqGuard,run_neq_held_nil w t k p ht]
 have:=zaq (P:=P) (K:=K) hr h
 rw[←hx,←hn]at this
 exact this
end
theorem zgX(c:UInt8)(r:Lab):zfb (c::r)=((c::r).all digB && !(decide (c=48) && !decide (r=[]))):=by
 unfold zfb
 cases r with
 |nil=>simp
 |cons a r=>by_cases h:c=48<;>simp[h]
theorem zed{w:World}(hW:WX w)(s:Lab)(most:Nat)(hm:most≤4294967296)(hs:s.length≤1000000000):
  Fn Tryz.prog 74 #[vs s,.int .u64 most] w (fun v w'=>v= .tuple #[.int .u64 (decP most s).1,vi (decP most s).2]∧Ext w w'):=by
 refine enter Tryz.func74 Tryz.ntmps74 rfl rfl ?_
 refine go trivial ?_
 refine zaM (Q:=fun e σ ds v=>e= .normal∧ds=[]∧σ 0=vs s∧σ 1= .int .u64 most∧σ 23= .bool (!zfb s)∧Ext w v) ?_ ?_
 ·by_cases h0:s=[]
  ·subst h0
   refine rgg [(2,10),(7,15),(11,19)] trivial ?_
   exact⟨rfl,rfl,vr0,vr0,vr0,Keep.refl _ _⟩
  obtain⟨c,r,rfl⟩:=List.exists_cons_of_ne_nil h0
  rw[zgX]
  have d0:decide (c::r=[])=false:=decide_eq_false h0
  refine rcg [(2,10),(7,15),(11,19)] d0 (Trim_ok w (c::r) h0 (by omega)) ?_
  rintro _ w1 ⟨rfl,hE1⟩
  by_cases hd:(c::r).all digB=true
  ·have d1:decide (Lib.trimS (c::r) digs10=[])=true:=decide_eq_true ((zeL _).2 hd)
   rw[hd]
   by_cases h48:c=48
   ·have d2:decide ((c.toNat:Int)=48)=true:=by subst h48;rfl
    have d3:decide (c::r=[48])=decide (r=[]):=by subst h48;simp
    rw[decide_eq_true h48,show(!(true && !(true && !decide (r=[]))))=!decide (r=[]) by cases decide (r=[])<;>rfl]
    refine reg [(2,10),(7,15),(11,19)] (an4 d1 d0 d2 d3) ?_
    exact⟨rfl,rfl,vr0,vr0,vr0,hE1⟩
   have d2:decide ((c.toNat:Int)=48)=false:=decide_eq_false fun h=>h48 (UInt8.toNat_inj.1 (by have:(48:UInt8).toNat=48:=rfl;omega))
   rw[decide_eq_false h48]
   refine reg [(2,10),(7,15),(11,19)] (an3 d1 d0 d2) ?_
   exact⟨rfl,rfl,vr0,vr0,vr0,hE1⟩
  have d1:decide (Lib.trimS (c::r) digs10=[])=false:=decide_eq_false fun h=>hd ((zeL _).1 h)
  simp only[Bool.not_eq_true]at hd
  rw[hd]
  refine reg [(2,10),(7,15),(11,19)] (an2 d1 d0) ?_
  exact⟨rfl,rfl,vr0,vr0,vr0,hE1⟩
 rintro _ σ _ w1 ⟨rfl,rfl,h0,h1,h23,hE1⟩
 unfold decP
 cases hf:zfb s with
 |false=>
  rw[hf]at h23
  refine go (an3 h0 h1 h23) ?_
  refine zaf (.inr rfl) Tryz.ntmps74 rfl (zac (vr0) (zac (vr0) zae)) ?_
  exact⟨rfl,hE1⟩
 |true=>
  rw[hf]at h23
  have hne:s≠ []:=fun h=>by subst h;cases hf
  have had:s.all digB=true:=by
   unfold zfb at hf
   simp only[Bool.and_eq_true]at hf
   exact hf.2.1
  refine go (an3 h0 h1 h23) ?_
  refine rc (an2 h0 h1) (zfr (hW.ext hE1) s hne had hs) ?_
  rintro v w2 ⟨hv,hE2⟩
  by_cases hb:valD s≤18446744073709551615
  ·rw[if_pos hb]at hv
   subst hv
   refine re (an2 h0 h1) ?_
   refine go (an2 h0 h1) ?_
   by_cases hle:valD s≤most
   ·have d1:decide ((most:Int)<(valD s:Int))=false:=decide_eq_false (by omega)
    simp only[if_true,if_pos hle]
    refine rq ?_;intro gd K hgd hK
    have hg2:∀n σ b,zaV gd n σ (some (2,b))=zaD (ev n σ (.tmp 31)) b:=(fun n σ b=>by rw[zak,show gd 2=some 31 from(by rw[hgd];rfl)];rfl)
    try simp only[go_sem]
    rw[show binV Tryz.prog .neq 108 .nilIface .nilIface=Option.none from rfl,zdB]
    refine zfF (u:= .nilIface) (b:=false) (by kernel_rfl) (.inl ⟨rfl,rfl⟩) (vr0) rfl ?_
    try simp (disch:=first|omega|assumption|rfl) only[go_sem,h1,d1,↓hg2]
    refine hK _ _ ?_;clear hK hgd;clear K;try clear gd
    refine go d1 ?_
    refine zaf (.inr rfl) Tryz.ntmps74 rfl (zac (vr0) (zac (vr0) zae)) ?_
    exact⟨rfl,hE1.trans hE2⟩
   ·have d1:decide ((most:Int)<(valD s:Int))=true:=decide_eq_true (by omega)
    simp only[if_true,if_neg hle]
    refine rq ?_;intro gd K hgd hK
    have hg2:∀n σ b,zaV gd n σ (some (2,b))=zaD (ev n σ (.tmp 31)) b:=(fun n σ b=>by rw[zak,show gd 2=some 31 from(by rw[hgd];rfl)];rfl)
    try simp only[go_sem]
    rw[show binV Tryz.prog .neq 108 .nilIface .nilIface=Option.none from rfl,zdB]
    refine zfF (u:= .nilIface) (b:=false) (by kernel_rfl) (.inl ⟨rfl,rfl⟩) (vr0) rfl ?_
    try simp (disch:=first|omega|assumption|rfl) only[go_sem,h1,d1,↓hg2]
    refine hK _ _ ?_;clear hK hgd;clear K;try clear gd
    refine go d1 ?_
    refine zaf (.inr rfl) Tryz.ntmps74 rfl (zac (vr0) (zac (vr0) zae)) ?_
    exact⟨rfl,hE1.trans hE2⟩
  ·rw[if_neg hb]at hv
   obtain⟨n,t,p,rfl⟩:=hv
   refine re (an2 h0 h1) ?_
   refine go (an2 h0 h1) ?_
   simp only[if_true,if_neg (show¬valD s≤most by omega)]
   refine rq ?_;intro gd K hgd hK
   have hg2:∀n σ b,zaV gd n σ (some (2,b))=zaD (ev n σ (.tmp 31)) b:=(fun n σ b=>by rw[zak,show gd 2=some 31 from(by rw[hgd];rfl)];rfl)
   try simp only[go_sem]
   rw[show binV Tryz.prog .neq 108 (.iface t p) .nilIface=Option.none from rfl,zdB]
   refine zfF (u:= .iface t p) (b:=true) (by kernel_rfl) (.inr ⟨⟨_,_,rfl⟩,rfl⟩) (vr0) rfl ?_
   try simp (disch:=first|omega|assumption|rfl) only[go_sem,h1,↓hg2]
   refine hK _ _ ?_;clear hK hgd;clear K;try clear gd
   refine go trivial ?_
   refine zaf (.inr rfl) Tryz.ntmps74 rfl (zac (vr0) (zac (vr0) zae)) ?_
   exact⟨rfl,hE1.trans hE2⟩
theorem zdK{w:World}{a:Addr}:∀(i m k:Nat) {l:List Value},zaE w a i (m+k)=some l→zaE w a i m=some (l.take m)
 |i,0,k,l,h=>by simp[zaE]
 |i,m+1,k,l,h=>by
  rw[show m+1+k=(m+k)+1 from by omega]at h
  unfold zaE at h ⊢
  split at h
  ·rename_i v l' h1 h2
   cases h
   rw[h1,zdK (i+1) m k h2];rfl
  ·cases h
theorem zbB{w:World}{p:Option Addr}{m k:Nat}{l:List Value}(h:zao w p (m+k)=some l):zao w p m=some (l.take m):=by
 cases p with
 |none=>cases h
 |some a=>exact zdK 0 m k h
section
variable {P : Program} {w : World} {K : Value → World → Prop} {t : TypeId} {p v : Value} {A B : Obj}
theorem st_al1(h:∀z,Ext w z→z.heap.size=w.heap.size+1→z.heap[w.heap.size]? =some A→stK P t p v z K):stK P t p v (w.alloc A) K:=
 h _ (Ext.alloc w A) (zaz w A) (World.alloc_heap_new w A)
end
section
variable {P : Program} {d : Option Tmp} {ty : TypeId} {ps : String} {af : Array Edge} {g : Option (Nat × Bool)} {ρ : Operand → Value} {w : World} {K : Value → World → Prop}
theorem op_slA{t e:TypeId}{x:Operand}{n:Nat}{a:Addr}{m:Lck K (opW P ⟨d,.slice t x Option.none Option.none Option.none,ty,ps,af,g⟩ ρ w K)}(ht:P.underlying t=some (.array n e))(hn:n≠0)(he:(P.info? e).isSome=true)
  (hx:ρ x= .pointer (some a)) (h:K (.slice (some a) n n) w):optL (slD P (some (.array n e)) (.pointer (some a)) Option.none Option.none Option.none) w K (opW P ⟨d,.slice t x Option.none Option.none Option.none,ty,ps,af,g⟩ ρ w K) m:=by
 show opW P _ ρ w K
 obtain⟨inf,hi⟩:=Option.isSome_iff_exists.1 he
 refine zaq (s:=Instr.sliceAt t (ρ x) Option.none Option.none Option.none) (v:= .slice (some a) n n) (w':=w) ?_ h
 have e1:=zaX (P:=P) (w:=w) (sl:=false) (n:=n) (c:=n) (lo:=Option.none) (hi:=Option.none) (mx:=Option.none) (l:=0) (h:=n) (m:=n) rfl rfl rfl (Nat.zero_le _) (Nat.le_refl _) (Nat.le_refl _) (by simp)
 have ha0:a.add 0=a:=by simp[Addr.add]
 simp[Instr.sliceAt,underlying,program,Sem.run,ht,hx,Instr.sureAddr,e1,sizeOf,typeInfo,hi,hn,ha0]
end
section
variable {P : Program} {d : Option Tmp} {ty : TypeId} {ps : String} {af : Array Edge} {g : Option (Nat × Bool)} {ρ : Operand → Value} {w : World} {K : Value → World → Prop}
end
theorem decP_le(m:Nat)(s:Lab):(decP m s).1≤m:=by
 unfold decP
 split
 ·split<;>simp_all
 ·simp
theorem isPow16(w:World):Calls Tryz.prog 235 #[vi 16] w (fun e w'=>e= .returned (.bool true)∧w'=w):=by
 go_enter Tryz.func235,Tryz.ntmps235
 go_wp2
 go_ret
 exact⟨rfl,rfl⟩
section
variable {P : Program} {d : Option Tmp} {ty : TypeId} {ps : String} {af : Array Edge} {g : Option (Nat × Bool)} {ρ : Operand → Value} {w : World} {K : Value → World → Prop}
theorem op_slAl{t e:TypeId}{x y:Operand}{n l:Nat}{a:Addr}{inf:TypeInfo}(ht:P.underlying t=some (.array n e))(hn:n≠0)(hi:P.info? e=some inf)(hs:inf.size=1)(hl:l<n)
  (hx:ρ x= .pointer (some a)) (hy:ρ y=vi l) (h:K (.slice (some (a.add l)) (n - l) (n - l)) w):opW P ⟨d,.slice t x (some y) Option.none Option.none,ty,ps,af,g⟩ ρ w K:=by
 refine zaq (s:=Instr.sliceAt t (ρ x) (some (ρ y)) Option.none Option.none) (v:= .slice (some (a.add l)) (n - l) (n - l)) (w':=w) ?_ h
 have e1:=zaX (P:=P) (w:=w) (sl:=false) (n:=n) (c:=n) (lo:=some (vi l)) (hi:=Option.none) (mx:=Option.none) (l:=l) (h:=n) (m:=n) rfl rfl rfl (by omega) (Nat.le_refl _) (Nat.le_refl _) (by simp)
 simp[Instr.sliceAt,underlying,program,Sem.run,ht,hx,hy,Instr.sureAddr,e1,sizeOf,typeInfo,hi,hs,hn]
 omega
end
theorem isPow16F(w:World):Fn Tryz.prog 235 #[vi 16] w (fun v w'=>v= .bool true∧w=w'):=
 Fn.of_calls ((isPow16 w).mono fun _ _ ⟨he,hw⟩=>⟨_,he,rfl,hw.symm⟩)
structure WY(w:World):Prop where
 p10:∃t fr,w.heap[1]? =some (.cells (Lib.pow10Tab.map fun z=>Value.int .u64 z).toArray t fr)
 tz:w.cell? ⟨6,15,Option.none⟩=some (.int .u8 4)
theorem WY.ext{w x:World}(h:WY w)(hE:Ext w x):WY x:=by
 obtain⟨t,fr,h2⟩:=h.p10
 exact⟨⟨t,fr,hE.at h2⟩,zb7 hE h.tz⟩
instance WY.tr:Tr WY:=⟨fun hE h=>h.ext hE⟩
theorem WY.tab{w:World}(h:WY w){name:String}(hn:Tryz.prog.globalNamed name=some 1):Lib.TabIs Tryz.prog w name .u64 Lib.pow10Tab:=by
 obtain⟨t,fr,h⟩:=h.p10
 unfold Lib.TabIs World.var?
 rw[hn,Option.bind_some,h]
theorem ItoaY_ok{w:World}(hW:WY w)(n:Int)(h0: -9223372036854775808≤n)(h1:n≤9223372036854775807):Fn Tryz.prog 82 #[vi n] w (fun v w'=>v=vs (Lib.itoa n)∧Ext w w'):=
 Fn.of_calls (Calls.mono (Any.strconv_Itoa Tryz.laysM171 n h0 h1 w (hW.tab (by kernel_rfl))) fun _ _ ⟨he,k,os,hw⟩=>⟨_,he,rfl,hw▸Ext.grow w k os⟩)
section
variable {P : Program} {d : Option Tmp} {ty : TypeId} {ps : String} {af : Array Edge} {g : Option (Nat × Bool)} {ρ : Operand → Value} {w : World} {K : Value → World → Prop}
theorem zhS{t e:TypeId}{x y:Operand}{n h0:Nat}{a:Addr}{inf:TypeInfo}(ht:P.underlying t=some (.array n e))(hn:n≠0)(hi:P.info? e=some inf)(hs:inf.size=1)(hl:h0≤n)
  (hx:ρ x= .pointer (some a)) (hy:ρ y=vi h0) (h:K (.slice (some a) h0 n) w):opW P ⟨d,.slice t x Option.none (some y) Option.none,ty,ps,af,g⟩ ρ w K:=by
 refine zaq (s:=Instr.sliceAt t (ρ x) Option.none (some (ρ y)) Option.none) (v:= .slice (some a) h0 n) (w':=w) ?_ h
 have e1:=zaX (P:=P) (w:=w) (sl:=false) (n:=n) (c:=n) (lo:=Option.none) (hi:=some (vi h0)) (mx:=Option.none) (l:=0) (h:=h0) (m:=n) rfl rfl rfl (by omega) hl (Nat.le_refl _) (by simp)
 simp[Instr.sliceAt,underlying,program,Sem.run,ht,hx,hy,Instr.sureAddr,e1,sizeOf,typeInfo,hi,hs,hn,Addr.add]
end
theorem Small_ok(w:World)(u:Nat)(hu:u<100):Fn Tryz.prog 191 #[vi u] w (fun v w'=>v=vs (Lib.decDigits u)∧w=w'):=
 Fn.of_calls (Calls.mono (Any.internal_strconv_small {Tryz.laysM171 with} u hu w) fun _ _ ⟨he,hw⟩=>⟨_,he,rfl,hw.symm⟩)
theorem ziK{w:World}(hW:WY w)(u:Nat)(h1:1≤u)(h2:u<18446744073709551616):Fn Tryz.prog 192 #[.int .u64 u] w (fun v w'=>v=vi (Lib.nDigits u:Nat)∧w=w'):=
 Fn.of_calls (Calls.mono (Any.internal_strconv_numDigits {Tryz.laysM171 with} u h1 h2 w (hW.tab (by kernel_rfl))) fun _ _ ⟨he,hw⟩=>⟨_,he,rfl,hw.symm⟩)
theorem ziV{w:World}{b:Nat}{T:TypeId}(hA:w.heap[b]? =some (.cells Lib.zeros24 T (0,0)))(u:Nat)(hu1:1≤u)(hu:u<18446744073709551616):
  Fn Tryz.prog 193 #[.slice (some ⟨b,0,Option.none⟩) (Lib.nDigits u) 24,.int .u64 u] w (fun _ w'=>Keep (fun i=>i=b) w w'∧∀j (h:j<(Lib.decDigits u).length),zag w' (some ⟨b,j,Option.none⟩)=some (zab (Lib.decDigits u)[j])):=by
 have hnd20:Lib.nDigits u≤20:=by have:=Lib.numDigits_eq u hu1 hu;split at this<;>omega
 have hH:Go.Sort.Holds (fun (b:UInt8)=>Value.int .u8 (b.toNat:Int)) w b 0 (Array.replicate (Lib.nDigits u) (0:UInt8)):=fun j hj=>by
  have hj':j<Lib.nDigits u:=by simpa using hj
  refine⟨?_,Lib.frozen_of_heap hA _⟩
  rw[Nat.zero_add,getElem!_pos _ j hj]
  have:w.cell? ⟨b,j,Option.none⟩=some (.int .u8 0):=zad hA (Lib.zeros24_at j (by omega))
  rw[this]
  simp
 have hfmt:=Any.internal_strconv_formatBase10 {Tryz.laysM171 with} b 0 24 u (Array.replicate (Lib.nDigits u) 0) w hH (by rw[Array.size_replicate];exact Lib.lt_pow_nDigits u) hu (by rw[Array.size_replicate];omega)
 rw[Array.size_replicate]at hfmt
 refine Fn.of_calls (hfmt.mono ?_)
 rintro e w' ⟨rfl,k,v',dk,rfl,hF⟩
 refine⟨_,rfl,?_,fun j hj=>?_⟩
 ·refine Keep.trans (b:=Go.Sort.putRow (fun (b:UInt8)=>Value.int .u8 (b.toNat:Int)) w b 0 dk) ?_ ((Ext.drewN _ k).mono fun _ _ h=>h.elim)
  refine⟨rfl,rfl,rfl,?_,fun i hi hS=>?_,Nat.le_refl _⟩
  ·show _≤(Array.modify _ _ _).size
   simp
  ·show(Array.modify _ _ _)[i]? =_
   rw[Array.getElem?_modify,if_neg (fun h=>hS h.symm)]
 ·rw[Lib.row_is_numeral hF j hj]
  show World.cell? _ _=_
  rw[World.cell?_drewN,←Nat.zero_add j]
  have:=Go.Sort.cell?_putRow (fun (b:UInt8)=>Value.int .u8 (b.toNat:Int)) w b 0 _ dk hH (by rw[hF.size,Array.size_replicate]) j (by rw[hF.size];rw[Lib.decDigits_length]at hj;exact hj)
  rw[this,Nat.zero_add]
  rfl
theorem zeI{w:World}(hW:WY w)(u:Nat)(hu:u<18446744073709551616):Fn Tryz.prog 122 #[.int .u64 u,vi 10] w (fun v w'=>v=vs (Lib.decDigits u)∧Ext w w'):=by
 refine enter Tryz.func122 Tryz.ntmps122 rfl rfl ?_
 have d1:decide ((10:Int)=10)=true:=rfl
 by_cases h100:u<100
 ·have d2:decide ((u:Int)<100)=true:=decide_eq_true (by omega)
  refine go (an2 d1 d2) ?_
  refine rc trivial (Small_ok w u h100) ?_
  rintro _ _ ⟨rfl,rfl⟩
  refine rgo trivial ?_
  refine rt0 Tryz.ntmps122 ?_
  exact⟨rfl,Keep.refl _ _⟩
 have d2:decide ((u:Int)<100)=false:=decide_eq_false (by omega)
 have hu1:1≤u:=by omega
 have hnd20:Lib.nDigits u≤20:=by have:=Lib.numDigits_eq u hu1 hu;split at this<;>omega
 refine go (an2 d1 d2) ?_
 refine zap ?_
 intro w1 hE1 hs1 hA
 refine rc trivial (ziK (hW.ext hE1) u hu1 hu) ?_
 rintro _ _ ⟨rfl,rfl⟩
 refine rgo trivial ?_
 repeat refine c_r ?_
 refine rq ?_;intro gd K hgd hK
 try simp only[go_sem]
 refine zhS (n:=24) (h0:=Lib.nDigits u) (a:=⟨w.heap.size,0,Option.none⟩) rfl (by decide) rfl rfl (by omega) (vr0) (vr0) ?_
 try simp only[go_sem]
 refine Fn.mono (ziV hA u hu1 hu) ?_
 rintro _ w2 ⟨hk2,hat⟩
 try simp only[go_sem]
 refine hK _ _ ?_;clear hK hgd;clear K;try clear gd
 repeat refine c_r ?_
 refine rq ?_;intro gd K hgd hK
 try simp only[go_sem]
 refine zhS (n:=24) (h0:=Lib.nDigits u) (a:=⟨w.heap.size,0,Option.none⟩) rfl (by decide) rfl rfl (by omega) (vr0) (vr0) ?_
 try simp only[go_sem]
 refine zb4 (l:=Lib.decDigits u) (a:=some ⟨w.heap.size,0,Option.none⟩) (c:=24) rfl rfl rfl (by rw[Lib.decDigits_length];first| (simp only[go_sem];done)| (simp only[go_sem];rfl)) (fun j hj=>?_) ?_
 ·rw[zbb];simpa [Addr.add] using hat j hj
 try simp only[go_sem]
 refine hK _ _ ?_;clear hK hgd;clear K;try clear gd
 repeat refine c_r ?_
 refine rt0 Tryz.ntmps122 ?_
 exact⟨rfl,Keep.to_ext hE1 rfl (fun b (hb:b=w.heap.size)=>by omega) hk2⟩
theorem zc2{w:World}(hW:WY w)(u:Nat)(hu:u<18446744073709551616):Fn Tryz.prog 60 #[.int .u64 u,vi 10] w (fun v w'=>v=vs (Lib.decDigits u)∧Ext w w'):=by
 refine enter Tryz.func60 Tryz.ntmps60 rfl rfl ?_
 refine go trivial ?_
 refine rc trivial (zeI hW u hu) ?_
 rintro _ w1 ⟨rfl,hE1⟩
 refine rgo trivial ?_
 refine rt0 Tryz.ntmps60 ?_
 exact⟨rfl,hE1⟩
end Go.Proofs.YtanmnkbccfcagaaGreatDoor
namespace Go.Proofs
open Go.Shelf
def Tryz.lays137_ren:Go.Shelf.Ren:=⟨fun|137=>132|217=>197|266=>239|n=>n,fun|9=>9|5=>5|3=>3|n=>n,fun|n=>n⟩
theorem Tryz.lays137:Go.Proofs.Lays.n137 Tryz.prog Tryz.lays137_ren:={
 mixed:=by kernel_rfl
 f137:=Tryz.func132.trans (congrArg some (by kernel_rfl))
 f217:=Tryz.func197.trans (congrArg some (by kernel_rfl))
 f266:=Tryz.func239.trans (congrArg some (by kernel_rfl))
 t3:=Tryz.underlying3
 a3:=Tryz.isAgg3
 z3:=Tryz.sizeOf3
 v3:=Tryz.zeroValue3
 t5:=Tryz.underlying5
 a5:=Tryz.isAgg5
 z5:=Tryz.sizeOf5
 v5:=Tryz.zeroValue5
 t9:=Tryz.underlying9
 a9:=Tryz.isAgg9
 z9:=Tryz.sizeOf9
 v9:=Tryz.zeroValue9}
end Go.Proofs
