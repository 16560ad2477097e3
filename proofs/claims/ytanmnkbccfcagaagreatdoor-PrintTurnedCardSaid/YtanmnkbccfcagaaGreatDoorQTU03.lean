/-
  Texts of a proof, joined: B0, R1, L0, M3a, L9, R2, N2, R3, R4, GA, GB, GC, GD, K27, KC, KN, K32, GE, GF, HC, K25, HA, HD, GG, K28, GH, GI, GJ, GK, GL, GM, GN, GO, GP, HE, L2, B1, HF, HG.
  Conditions: none.
-/
import Derived.Test.YtanmnkbccfcagaaGreatDoorQTU02
import Derived.Test.YtanmnkbccfcagaaGreatDoorProg
import Derived.Shelf.Small.Strs
import Derived.CallsIn
import Derived.Shelf.LaysM
import Derived.Ground.MpProg
import Derived.Shelf.Strings.Cut
import Derived.Shelf.Strings.SlTrimAscii
import Derived.Shelf.Pu.ErrVarParseUint
import Derived.Shelf.Strings.Prefix
import Derived.Shelf.Small.Wraps
import Derived.Shelf.Strings.Split
import Derived.Shelf.Strconv.Itoa4
import Derived.Shelf.Bits.Mul64
import Derived.Lib.IndexMore
import Derived.Lib.ItoaNum
import Derived.Test.YtanmnkbccfcagaaGreatDoorQTU01
import Derived.ProofKit
import Derived.OpenShut
import Derived.SizedLaws
import Derived.Deep.Slices
import Derived.Lib.LaidTab
import Derived.Lib.ConvBytes
import Derived.Lib.BufferWrite
import Derived.Deep.WholeRow
import Derived.WalkKit
import Derived.Lib.MakeNoZero
import Derived.Lib.AppendIntMem
import Derived.Shelf.Strings.Builder1
set_option linter.unusedVariables false
set_option linter.unusedSimpArgs false
set_option linter.defProp false
set_option linter.unnecessarySimpa false
set_option maxHeartbeats 8000000
namespace Go.Proofs.YtanmnkbccfcagaaGreatDoor
open Go
set_option maxRecDepth 10000
structure Bld(B:Nat)(w:World)(b:Nat)(bs:List UInt8):Prop where
 ex:∃p v,(p= .pointer Option.none∨p= .pointer (some ⟨b,0,Option.none⟩))∧w.heap[b]? =some (.cells #[p,v] 106 (0,0))∧Own B w 5 v (bs.map zaj)
theorem zdm{B:Nat}{w:World}{e:TypeId}{v:Value}{l:List Value}(h:Own B w e v l){b:Nat}(hb:some b=v.ownBlock):∃cur fr,w.heap[b]? =some (.cells cur e fr):=by
 rcases h.2 with ⟨rfl,_⟩| ⟨g,cap,cur,rfl,_,hg,_⟩
 ·cases hb
 ·cases hb;exact⟨_,_,hg⟩
theorem zir{B:Nat}{w:World}{v p:Value}{l:List Value}{b:Nat}(h:Own B w 5 v l)(hb:w.heap[b]? =some (.cells #[p,v] 106 (0,0))):some b≠v.ownBlock:=fun he=>by
 obtain⟨cur,fr,h1⟩:=zdm h he
 rw[hb]at h1
 injection h1 with h1
 injection h1 with _ h2
 revert h2;decide
theorem zeZ(l:List UInt8):∀q∈l.map zaj,one q=true:=fun q hq=>by
 obtain⟨c,_,rfl⟩:=List.mem_map.1 hq;rfl
theorem zbz{w:World}{b:Nat}{p v:Value}(hp:p= .pointer Option.none∨p= .pointer (some ⟨b,0,Option.none⟩))(hb:w.heap[b]? =some (.cells #[p,v] 106 (0,0))):
  Fn Tryz.prog 120 #[.pointer (some ⟨b,0,Option.none⟩)] w (fun _ w'=>w'.heap[b]? =some (.cells #[.pointer (some ⟨b,0,Option.none⟩),v] 106 (0,0))∧Keep (fun i=>i=b) w w'∧w'.heap.size=w.heap.size):=by
 have c0:zaf w (some ⟨b,0,Option.none⟩)=some p:=zac hb rfl
 obtain⟨j,hj,hjs⟩:∃j,Tryz.prog.info? 106=some j∧j.size≠0:=by
  have:(Tryz.prog.info? 106).map (·.size)=some 2:=by kernel_rfl
  obtain⟨j,h1,h2⟩:=Option.map_eq_some_iff.1 this
  exact⟨j,h1,by rw[h2];decide⟩
 rcases hp with rfl|rfl
 ·refine enter Tryz.func120 Tryz.ntmps120 rfl rfl ?_
  repeat refine c_r ?_
  refine rq ?_;intro gd K hgd hK
  try simp (disch:=first|omega|assumption|rfl) only[go_sem,c0,Nat.add_zero]
  refine hK _ _ ?_;clear hK hgd;clear K;try clear gd
  repeat refine c_r ?_
  refine wc0 ?_ ?_
  ·intro _
   have hsh:w.shape? b=some (106,2):=by simp[World.shape?,hb]
   repeat refine c_r ?_
   refine rq ?_;intro gd K hgd hK
   try simp only[go_sem]
   refine zhM (by rfl) (Lib.run_to_unsafe w ⟨b,0,Option.none⟩ (by rfl) (by rfl) hj hjs hsh (Nat.zero_lt_succ 1)) ?_
   try simp only[go_sem]
   refine⟨.pointer (some ⟨b,0,Option.none⟩),w,?_,?_⟩
   ·rw[run_callFunc_extern (show Tryz.prog.funcs[189]? =_ from Tryz.func189) (by kernel_rfl) (by kernel_rfl) (by kernel_rfl) (e:=Extern.AbiNoEscape.same) (by kernel_rfl)]
    rw[Lib.run_noEscape]
    rfl
   try simp only[go_sem]
   refine zhM (by rfl) (Lib.run_from_unsafe w ⟨b,0,Option.none⟩ (by rfl) (by rfl) hj hsh (by kernel_rfl)) ?_
   try simp only[go_sem]
   refine zen (P:=Tryz.prog) (t:=104) (j:=0) (l:=[.pointer Option.none,v]) hb (by simp) rfl rfl rfl ?_
   intro w1 hs1 hb1 hk1
   try simp only[go_sem]
   refine hK _ _ ?_;clear hK hgd;clear K;try clear gd
   repeat refine c_r ?_
   exact zaw (by simp) rfl ⟨by simpa using hb1,hk1,hs1⟩
  ·intro h;cases h
 ·refine enter Tryz.func120 Tryz.ntmps120 rfl rfl ?_
  repeat refine c_r ?_
  refine rq ?_;intro gd K hgd hK
  try simp (disch:=first|omega|assumption|rfl) only[go_sem,c0,Nat.add_zero]
  refine hK _ _ ?_;clear hK hgd;clear K;try clear gd
  repeat refine c_r ?_
  refine wc0 ?_ ?_
  ·intro h;cases h
  intro _
  repeat refine c_r ?_
  refine rq ?_;intro gd K hgd hK
  try simp (disch:=first|omega|assumption|rfl) only[go_sem,c0,Nat.add_zero]
  refine ze2 (by rfl) hj (by rfl) (by rfl) ?_
  try simp only[go_sem]
  refine hK _ _ ?_;clear hK hgd;clear K;try clear gd
  repeat refine c_r ?_
  refine wc0 ?_ ?_
  ·intro h;cases h
  intro _
  repeat refine c_r ?_
  exact zaw (by simp) rfl ⟨hb,Keep.refl _ _,rfl⟩
theorem zaC{B:Nat}{w:World}{b:Nat}{bs s:List UInt8}(h:Bld B w b bs)(hB:B≤w.heap.size)(hlen:bs.length+s.length≤100000000000):
  Fn Tryz.prog 57 #[.pointer (some ⟨b,0,Option.none⟩),vs s] w (fun _ w'=>Bld B w' b (bs++s)∧Keep (fun i=>i=b∨B≤i) w w'):=by
 obtain⟨p,v,hp,hb,hown⟩:=h.ex
 have hne:=zir hown hb
 obtain⟨inf,hi,hz,hsz,hby⟩:=info_parts (P:=Tryz.prog) (e:=5) (z:= .int .u8 0) (size:=1) (bytes:=1) (by kernel_rfl)
 refine enter Tryz.func57 Tryz.ntmps57 rfl rfl ?_
 repeat refine c_r ?_
 refine rg0 ?_
 repeat refine c_r ?_
 refine rq ?_;intro gd K hgd hK
 try simp only[go_sem]
 refine Fn.mono (zbz hp hb) ?_
 rintro _ w1 ⟨hb1,hk1,hs1⟩
 try simp only[go_sem]
 refine hK _ _ ?_;clear hK hgd;clear K;try clear gd
 have hown1:=hown.keep hk1 (fun i hi he=>hne (he▸hi))
 have c1:zaf w1 (some ⟨b,1,Option.none⟩)=some v:=zac hb1 rfl
 repeat refine c_r ?_
 refine rq ?_;intro gd K hgd hK
 try simp (disch:=first|omega|assumption|rfl) only[go_sem,c1,Nat.zero_add]
 refine op_appS hown1 (by rfl) (by rfl) hi hz hsz hby (by rfl) (by rfl) (by simpa using hlen) (by omega) ?_
 intro v2 w2 hown2 hk2
 try simp only[go_sem]
 have hb2:=(hk2.block b (Array.getElem?_eq_some_iff.1 hb1).1 hne).trans hb1
 have hne2:some b≠v2.ownBlock:=fun he=>by
  obtain⟨cur,fr,h1⟩:=zdm hown2 he
  rw[hb2]at h1
  injection h1 with h1
  injection h1 with _ h2
  revert h2;decide
 obtain⟨a2,c2,hv2⟩:=hown2.slice
 refine zen (P:=Tryz.prog) (t:=31) (j:=1) (l:=[.pointer (some ⟨b,0,Option.none⟩),v]) hb2 (by simp) (by rw[hv2];rfl) rfl rfl ?_
 intro w3 hs3 hb3 hk3
 try simp only[go_sem]
 refine hK _ _ ?_;clear hK hgd;clear K;try clear gd
 have hown3:=hown2.keep hk3 (fun i hi he=>hne2 (he▸hi))
 repeat refine c_r ?_
 refine rg0 ?_
 repeat refine c_r ?_
 refine zaB (.inr rfl) Tryz.ntmps57 rfl (zal rfl (zal rfl zay)) ?_
 refine⟨⟨⟨_,v2,.inr rfl,by simpa using hb3,by rw[List.map_append];exact hown3⟩⟩,?_⟩
 exact((hk1.mono (fun i _ h=> .inl h)).trans (hk2.mono (fun i _ h=> .inr (hown1.ge h).1))).trans (hk3.mono (fun i _ h=> .inl h))
theorem zaV{B:Nat}{w:World}{b:Nat}{bs:List UInt8}{c:UInt8}(h:Bld B w b bs)(hB:B≤w.heap.size)(hlen:bs.length+1≤100000000000):
  Fn Tryz.prog 80 #[.pointer (some ⟨b,0,Option.none⟩),zaj c] w (fun _ w'=>Bld B w' b (bs++ [c])∧Keep (fun i=>i=b∨B≤i) w w'):=by
 obtain⟨p,v,hp,hb,hown⟩:=h.ex
 have hne:=zir hown hb
 refine enter Tryz.func80 Tryz.ntmps80 rfl rfl ?_
 repeat refine c_r ?_
 refine rg0 ?_
 repeat refine c_r ?_
 refine rq ?_;intro gd K hgd hK
 try simp only[go_sem]
 refine Fn.mono (zbz hp hb) ?_
 rintro _ w1 ⟨hb1,hk1,hs1⟩
 try simp only[go_sem]
 refine hK _ _ ?_;clear hK hgd;clear K;try clear gd
 have hown1:=hown.keep hk1 (fun i hi he=>hne (he▸hi))
 have c1:zaf w1 (some ⟨b,1,Option.none⟩)=some v:=zac hb1 rfl
 repeat refine c_r ?_
 refine rq ?_;intro gd K hgd hK
 try simp (disch:=first|omega|assumption|rfl) only[go_sem,c1,Nat.zero_add]
 refine zbM (z:= .int .u8 0) (v:=zaj c) (by rfl) (by rfl) (by rfl) (by rfl) (by rfl) ?_
 intro x1 hX1 hXs hXo
 try simp only[go_sem]
 refine zbr (B:=B) (hown1.ext hX1) hXo.row (by rfl) (by rfl) (by rfl) (by rfl) (by rfl) (by rfl) (by rfl) (by rfl) (zeZ [c]) (by simp;omega) (by decide) (by have:=hX1.size;omega) ?_
 intro v2 w2 hown2 _ hk2 hfr
 try simp only[go_sem]
 have hb2:=(hk2.block b (by have:=(Array.getElem?_eq_some_iff.1 hb1).1;have:=hX1.size;omega) hne).trans (Ext.at hX1 hb1)
 have hne2:some b≠v2.ownBlock:=fun he=>by
  obtain⟨cur,fr,h1⟩:=zdm hown2 he
  rw[hb2]at h1
  injection h1 with h1
  injection h1 with _ h2
  revert h2;decide
 obtain⟨a2,c2,hv2⟩:=hown2.slice
 refine zen (P:=Tryz.prog) (t:=31) (j:=1) (l:=[.pointer (some ⟨b,0,Option.none⟩),v]) hb2 (by simp) (by rw[hv2];rfl) rfl rfl ?_
 intro w3 hs3 hb3 hk3
 try simp only[go_sem]
 refine hK _ _ ?_;clear hK hgd;clear K;try clear gd
 have hown3:=hown2.keep hk3 (fun i hi he=>hne2 (he▸hi))
 repeat refine c_r ?_
 refine rg0 ?_
 repeat refine c_r ?_
 refine zaB (.inr rfl) Tryz.ntmps80 rfl (zal rfl zay) ?_
 refine⟨⟨⟨_,v2,.inr rfl,by simpa using hb3,by rw[List.map_append];exact hown3⟩⟩,?_⟩
 exact(((hk1.mono (fun i _ h=> .inl h)).trans (hX1.mono (fun i _ h=>h.elim))).trans (hk2.mono (fun i _ h=> .inr (hown1.ge h).1))).trans (hk3.mono (fun i _ h=> .inl h))
theorem zcp(w:World)(p:Addr)(n:Nat):Keep (fun i=>i=p.block) w (w.freeze p n):=by
 unfold World.freeze
 split
 ·exact Keep.refl _ _
 ·exact⟨rfl,rfl,rfl,by simp,fun k hk hne=>by
   simp only[Array.getElem?_modify]
   rw[if_neg (fun h=>hne h.symm)],Nat.le_refl _⟩
theorem zb4{B:Nat}{w:World}{b:Nat}{bs:List UInt8}(h:Bld B w b bs)(hlen:bs.length≤100000000000):
  Fn Tryz.prog 64 #[.pointer (some ⟨b,0,Option.none⟩)] w (fun v w'=>v=vs bs∧Keep (fun i=>B≤i) w w'):=by
 obtain⟨p,v,hp,hb,hown⟩:=h.ex
 rcases hown.2 with ⟨rfl,hl⟩| ⟨g,cap,cur,rfl,hgB,hg,hn,hcap,hcs,hx⟩
 ·have h0:bs=[]:=by simpa using hl
  subst h0
  refine enter Tryz.func64 Tryz.ntmps64 rfl rfl ?_
  repeat refine c_r ?_
  refine rg0 ?_
  repeat refine c_r ?_
  refine zaK (fun _=>false) [(0,true),(1,true),(2,true),(3,true),(5,true),(6,true),(7,true),(8,true),(9,true),(4,false),(10,false),(11,true)] NoS mixed (by kernel_rfl) ?_;intro gd K x hgd hx hxe hK;have hx0:=zbc hxe;clear hxe
  have c1:zaf x (some ⟨b,1,Option.none⟩)=some (.slice Option.none 0 0):=zac (Ext.at hx0 hb) rfl
  simp (disch:=first|omega|assumption|rfl) only[go_sem,c1,Nat.zero_add]
  refine zaO (u:= .slice Option.none 0 0) (vq0) (Lib.run_unsafeSliceData_nil _ _ _ _ _) ?_
  refine⟨.inr (Keep.refl _ _),?_⟩
  refine zax (u:= .pointer Option.none) (z:=vi 0) (vq0) (vr0) (Lib.run_unsafeString_none (P:=Tryz.prog) _ _ _ _ _) ?_
  refine⟨.inr (Keep.refl _ _),?_⟩
  refine hK _ _ ?_;clear hK hgd;clear K;try clear gd
  repeat refine c_r ?_
  refine zaB (.inr rfl) Tryz.ntmps64 rfl (zal (vr0) zay) ?_
  exact⟨rfl,hx0.mono (fun i _ h=>h.elim)⟩
 by_cases h0:bs=[]
 ·subst h0
  refine enter Tryz.func64 Tryz.ntmps64 rfl rfl ?_
  repeat refine c_r ?_
  refine rg0 ?_
  repeat refine c_r ?_
  refine zaK (fun _=>false) [(0,true),(1,true),(2,true),(3,true),(5,true),(6,true),(7,true),(8,true),(9,true),(4,false),(10,false),(11,true)] NoS mixed (by kernel_rfl) ?_;intro gd K x hgd hx hxe hK;have hx0:=zbc hxe;clear hxe
  have c1:zaf x (some ⟨b,1,Option.none⟩)=some (.slice (some ⟨g,0,Option.none⟩) 0 cap):=zac (Ext.at hx0 hb) rfl
  have hgx:=Ext.at hx0 hg
  simp (disch:=first|omega|assumption|rfl) only[go_sem,c1,Nat.zero_add]
  by_cases hc0:cap=0
  ·subst hc0
   refine zaO (u:= .slice (some ⟨g,0,Option.none⟩) 0 0) (vq0) (Lib.run_unsafeSliceData_zero (P:=Tryz.prog) _ _ _ 5 (by rfl) _ _ _ (by simp only[World.shape?,hgx];rfl)) ?_
   refine⟨.inr (Ext.alloc x _),?_⟩
   refine zax (u:= .pointer (some ⟨x.heap.size,0,Option.none⟩)) (z:=vi 0) (vq0) (vr0) (Lib.run_unsafeString_none (P:=Tryz.prog) _ _ _ _ _) ?_
   refine⟨.inr (Keep.refl _ _),?_⟩
   refine hK _ _ ?_;clear hK hgd;clear K;try clear gd
   repeat refine c_r ?_
   refine zaB (.inr rfl) Tryz.ntmps64 rfl (zal (vr0) zay) ?_
   exact⟨rfl,(hx0.trans (Ext.alloc x _)).mono (fun i _ h=>h.elim)⟩
  ·refine zaO (u:= .slice (some ⟨g,0,Option.none⟩) 0 cap) (vq0) (Lib.run_unsafeSliceData_row _ _ _ _ _ _ hc0) ?_
   refine⟨.inr (Keep.refl _ _),?_⟩
   refine zax (u:= .pointer (some ⟨g,0,Option.none⟩)) (z:=vi 0) (vq0) (vr0) (Lib.run_unsafeString_none (P:=Tryz.prog) _ _ _ _ _) ?_
   refine⟨.inr (Keep.refl _ _),?_⟩
   refine hK _ _ ?_;clear hK hgd;clear K;try clear gd
   repeat refine c_r ?_
   refine zaB (.inr rfl) Tryz.ntmps64 rfl (zal (vr0) zay) ?_
   exact⟨rfl,hx0.mono (fun i _ h=>h.elim)⟩
 simp only[List.length_map,Nat.mul_one]at hn hx hb hcs
 have hlen0:0<bs.length:=List.length_pos_iff.2 h0
 refine enter Tryz.func64 Tryz.ntmps64 rfl rfl ?_
 repeat refine c_r ?_
 refine rg0 ?_
 repeat refine c_r ?_
 have hbg:b≠g:=fun he=>by
  subst he
  rw[hb]at hg
  injection hg with hg
  injection hg with _ h2
  revert h2;decide
 have hc0:cap≠0:=by omega
 refine zaK (fun _=>false) [(0,true),(1,true),(2,true),(3,true),(5,true),(6,true),(7,true),(8,true),(9,true),(4,false),(10,false),(11,true)] ((fun i=>i=g)) mixed (by kernel_rfl) ?_;intro gd K x hgd hx hxe hK;have hx0:=zbc hxe;clear hxe
 have c1:zaf x (some ⟨b,1,Option.none⟩)=some (.slice (some ⟨g,0,Option.none⟩) bs.length cap):=zac (Ext.at hx0 hb) rfl
 have hgx:=Ext.at hx0 hg
 simp (disch:=first|omega|assumption|rfl) only[go_sem,c1,Nat.zero_add]
 refine⟨fun a ha hb=>(by cases ha;exact hbg hb),fun a ha hb=>(by cases ha;exact hbg hb),?_⟩
 refine zaO (u:= .slice (some ⟨g,0,Option.none⟩) bs.length cap) (vq0) (Lib.run_unsafeSliceData_row _ _ _ _ _ _ hc0) ?_
 refine⟨.inr (Keep.refl _ _),?_⟩
 refine zax (u:= .pointer (some ⟨g,0,Option.none⟩)) (z:=vi bs.length) (vq0) (vq0) (Lib.run_unsafeString_row (P:=Tryz.prog) _ _ _ _ 5 (by rfl) (by rfl) g (cap*1) (by simp[World.shape?,hgx,hcs]) bs h0 (by omega) (by omega) ?_) ?_
 ·intro j y hj
  obtain⟨hj1,hj2⟩:=List.getElem?_eq_some_iff.1 hj
  have hcell:=hown.row
  obtain⟨a,c,e,hc,hgt⟩:=hcell.ext hx0
  injection e with e1 e2 e3
  have h2:=hgt j (by simpa using hj1)
  rw[←e1,List.getElem_map,hj2]at h2
  exact h2
 have hfk:Keep (fun i=>i=g) x (x.freeze ⟨g,0,Option.none⟩ bs.length):=zcp x ⟨g,0,Option.none⟩ bs.length
 refine⟨.inr hfk,?_⟩
 refine hK _ _ ?_;clear hK hgd;clear K;try clear gd
 repeat refine c_r ?_
 refine zaB (.inr rfl) Tryz.ntmps64 rfl (zal (vr0) zay) ?_
 exact⟨rfl,(hx0.mono (fun i _ h=>h.elim)).trans (hfk.mono (fun i _ h=>h▸hgB))⟩
theorem zcI{a b c:Lab}(h1:cmpL a b<0)(h2:cmpL b c≤0):cmpL a c<0:=by
 have h3:=zei (Int.le_of_lt h1) h2
 by_cases h:cmpL a c=0
 ·have:=zbt h
  subst this
  have:=zdq a b
  omega
 ·omega
def sgn(n:Int):Int:=if n<0 then -1 else if 0<n then 1 else 0
def cmpR:Nm→Nm→Int
 | [],[]=>0
 | [],_::_=> -1
 |_::_,[]=>1
 |a::l,b::m=>if cmpL a b=0 then cmpR l m else cmpL a b
def cmpN(a b:Nm):Int:=cmpR a.reverse b.reverse
theorem cmpR_nil:∀a b:Nm,a=[]∨b=[]→cmpR a b=sgn ((a.length:Int) - b.length)
 | [],[],_=>rfl
 | [],_::_,_=>by simp only[cmpR,sgn,List.length_cons,List.length_nil];rw[if_pos (by omega)]
 |_::_,[],_=>by simp only[cmpR,sgn,List.length_cons,List.length_nil];rw[if_neg (by omega),if_pos (by omega)]
 |_::_,_::_,h=>by simp at h
theorem zif{a b:Nm}{i:Nat}(ha:i<a.length)(hb:i<b.length):cmpR (a.drop i) (b.drop i)=if cmpL a[i] b[i]=0 then cmpR (a.drop (i+1)) (b.drop (i+1)) else cmpL a[i] b[i]:=by
 rw[List.drop_eq_getElem_cons ha,List.drop_eq_getElem_cons hb];rfl
end Go.Proofs.YtanmnkbccfcagaaGreatDoor
namespace Go.Proofs
open Go.Shelf
def Tryz.lays106_ren:Go.Shelf.Ren:=⟨fun|106=>103|213=>162|265=>218|n=>n,fun|9=>9|3=>3|n=>n,fun|n=>n⟩
theorem Tryz.lays106:Go.Proofs.Lays.n106 Tryz.prog Tryz.lays106_ren:={
 mixed:=by kernel_rfl
 f106:=Tryz.func103.trans (congrArg some (by kernel_rfl))
 f213:=Tryz.func162.trans (congrArg some (by kernel_rfl))
 f265:=Tryz.func218.trans (congrArg some (by kernel_rfl))
 t3:=Tryz.underlying3
 a3:=Tryz.isAgg3
 z3:=Tryz.sizeOf3
 v3:=Tryz.zeroValue3
 t9:=Tryz.underlying9
 a9:=Tryz.isAgg9
 z9:=Tryz.sizeOf9
 v9:=Tryz.zeroValue9}
end Go.Proofs
namespace Go.Proofs.YtanmnkbccfcagaaGreatDoor
open Go
set_option maxRecDepth 10000
theorem Fn.of_calls{P:Program}{f:FuncId}{args:Array Value}{w:World}{R:Value→World→Prop}(h:Calls P f args w (fun e w'=>∃v,e= .returned v∧R v w')):Fn P f args w R:=callsIn_wide.2 h
theorem zdY(w:World)(a b:Lab):Fn Tryz.prog 103 #[vs a,vs b] w (fun v w'=>v=vi (cmpL a b)∧w'=w):=
 Fn.of_calls (Calls.mono (Any.strings_Compare Tryz.lays106 ⟨a.toArray⟩ ⟨b.toArray⟩ w) fun _ _ ⟨he,hw⟩=>⟨_,he,rfl,hw⟩)
theorem zfU(w:World)(a b:Lab)(ha:a.length≤9000000000000000000)(hb:b.length≤9000000000000000000):Fn Tryz.prog 158 #[vs a,vs b] w (fun v w'=>v=vi (cmpL (zaS a) (zaS b))∧Ext w w'):=by
 refine enter Tryz.func158 Tryz.ntmps158 rfl rfl ?_
 repeat (first|refine c_r ?_|refine rg0 ?_)
 refine rq ?_;intro gd K hgd hK
 try simp only[go_sem]
 refine Fn.mono (zcP _ _ ha) ?_
 rintro _ w1 ⟨rfl,hE1⟩
 try simp only[go_sem]
 refine Fn.mono (zcP _ _ hb) ?_
 rintro _ w2 ⟨rfl,hE2⟩
 try simp only[go_sem]
 refine Fn.mono (zdY _ _ _) ?_
 rintro _ w3 ⟨rfl,rfl⟩
 try simp only[go_sem]
 refine hK _ _ ?_;clear hK hgd;clear K;try clear gd
 repeat refine c_r ?_
 refine rt0 Tryz.ntmps158 ?_
 exact⟨rfl,hE1.trans hE2⟩
theorem s_clip{P:Program}{e:TypeId}{ad:Option Addr}{n c:Nat}{k k':IntKind}(h:n≤c)(hi:(P.info? e).isSome=true):
  slD P (some (.slice e)) (.slice ad n c) Option.none (some (.int k n)) (some (.int k' n))=some (.slice ad n n):=by
 have e1:slB Option.none=some 0:=rfl
 have e2:∀(k:IntKind) (d:Nat),slH (some (.int k (n:Int))) d=some n:=fun k d=>by simp[slH]
 simp only[slD,e1,e2]
 simp[h,hi,zaH]
--?? slices.Clip[[]string,string]
end Go.Proofs.YtanmnkbccfcagaaGreatDoor
namespace Go.Proofs
open Go.Shelf
def Tryz.laysM171_ren:Go.Shelf.Ren:=⟨fun|171=>82|243=>145|246=>210|283=>191|284=>192|285=>193|286=>194|129=>233|317=>232|318=>234|319=>235|320=>236|337=>271|338=>272|n=>n,fun|3=>3|9=>9|2=>2|4=>4|171=>239|0=>0|53=>114|37=>31|5=>5|173=>242|212=>280|51=>28|20=>20|213=>281|46=>262|232=>319|233=>320|n=>n,fun|17=>1|18=>5|19=>6|n=>n⟩
theorem Tryz.laysM171:Go.Proofs.LaysM.n171 Tryz.prog Tryz.laysM171_ren:={
 mixed:=by kernel_rfl
 f129:=Tryz.func233.trans (congrArg some (by kernel_rfl))
 f171:=Tryz.func82.trans (congrArg some (by kernel_rfl))
 f243:=Tryz.func145.trans (congrArg some (by kernel_rfl))
 f246:=Tryz.func210.trans (congrArg some (by kernel_rfl))
 f283:=Tryz.func191.trans (congrArg some (by kernel_rfl))
 f284:=Tryz.func192.trans (congrArg some (by kernel_rfl))
 f285:=Tryz.func193.trans (congrArg some (by kernel_rfl))
 f286:=Tryz.func194.trans (congrArg some (by kernel_rfl))
 f317:=Tryz.func232.trans (congrArg some (by kernel_rfl))
 f318:=Tryz.func234.trans (congrArg some (by kernel_rfl))
 f319:=Tryz.func235.trans (congrArg some (by kernel_rfl))
 f320:=Tryz.func236.trans (congrArg some (by kernel_rfl))
 f337:=Tryz.func271.trans (congrArg some (by kernel_rfl))
 f338:=Tryz.func272.trans (congrArg some (by kernel_rfl))
 t0:=Tryz.underlying0
 a0:=Tryz.isAgg0
 z0:=Tryz.sizeOf0
 v0:=Tryz.zeroValue0
 t2:=Tryz.underlying2
 a2:=Tryz.isAgg2
 z2:=Tryz.sizeOf2
 v2:=Tryz.zeroValue2
 t3:=Tryz.underlying3
 a3:=Tryz.isAgg3
 z3:=Tryz.sizeOf3
 v3:=Tryz.zeroValue3
 t4:=Tryz.underlying4
 a4:=Tryz.isAgg4
 z4:=Tryz.sizeOf4
 v4:=Tryz.zeroValue4
 t5:=Tryz.underlying5
 a5:=Tryz.isAgg5
 z5:=Tryz.sizeOf5
 v5:=Tryz.zeroValue5
 t9:=Tryz.underlying9
 a9:=Tryz.isAgg9
 z9:=Tryz.sizeOf9
 v9:=Tryz.zeroValue9
 t20:=Tryz.underlying20
 a20:=Tryz.isAgg20
 z20:=Tryz.sizeOf20
 v20:=Tryz.zeroValue20
 t37:=Tryz.underlying31
 a37:=Tryz.isAgg31
 z37:=Tryz.sizeOf31
 v37:=Tryz.zeroValue31
 t46:=Tryz.underlying262
 a46:=Tryz.isAgg262
 z46:=Tryz.sizeOf262
 v46:=Tryz.zeroValue262
 t51:=Tryz.underlying28
 a51:=Tryz.isAgg28
 z51:=Tryz.sizeOf28
 v51:=Tryz.zeroValue28
 t53:=Tryz.underlying114
 a53:=Tryz.isAgg114
 z53:=Tryz.sizeOf114
 v53:=Tryz.zeroValue114
 t171:=Tryz.underlying239
 a171:=Tryz.isAgg239
 z171:=Tryz.sizeOf239
 v171:=Tryz.zeroValue239
 t173:=Tryz.underlying242
 a173:=Tryz.isAgg242
 z173:=Tryz.sizeOf242
 v173:=Tryz.zeroValue242
 t212:=Tryz.underlying280
 a212:=Tryz.isAgg280
 z212:=Tryz.sizeOf280
 v212:=Tryz.zeroValue280
 t213:=Tryz.underlying281
 a213:=Tryz.isAgg281
 z213:=Tryz.sizeOf281
 t232:=Tryz.underlying319
 a232:=Tryz.isAgg319
 z232:=Tryz.sizeOf319
 v232:=Tryz.zeroValue319
 t233:=Tryz.underlying320
 a233:=Tryz.isAgg320
 z233:=Tryz.sizeOf320
 v233:=Tryz.zeroValue320
 g17:=by kernel_rfl
 g18:=by kernel_rfl
 g19:=by kernel_rfl
 i0:=by kernel_rfl
 i2:=by kernel_rfl
 i3:=by kernel_rfl
 i4:=by kernel_rfl
 i5:=by kernel_rfl
 i9:=by kernel_rfl
 i20:=by kernel_rfl
 i37:=by kernel_rfl
 i46:=by kernel_rfl
 i51:=by kernel_rfl
 i53:=by kernel_rfl
 i171:=by kernel_rfl
 i173:=by kernel_rfl
 i212:=by kernel_rfl
 i232:=by kernel_rfl
 i233:=by kernel_rfl
 m17:=by kernel_rfl
 m18:=by kernel_rfl
 m19:=by kernel_rfl}
end Go.Proofs
namespace Go.Proofs.YtanmnkbccfcagaaGreatDoor
open Go
set_option maxRecDepth 10000
def few(n:Nm):Bool:=decide (n.length≤140) && n.all fun l=>decide (l.length≤100)
theorem few_lb{n:Nm}(h:few n=true):LB n:=fun l hl=>by
 simp only[few,Bool.and_eq_true,List.all_eq_true,decide_eq_true_eq]at h
 have:=h.2 l hl;omega
theorem few_len{n:Nm}(h:few n=true):n.length≤140:=by
 simp only[few,Bool.and_eq_true,decide_eq_true_eq]at h
 exact h.1
theorem zfs(w:World)(a:Value)(xs:Nm)(ha:Row w a (xs.map vs)):
  Fn Tryz.prog 51 #[a] w (fun v w'=>v= .bool (few xs)∧Ext w w'):=by
 obtain⟨a,ca,rfl,hca,hla⟩:=ha
 simp only[List.length_map]at*
 refine enter Tryz.func51 Tryz.ntmps51 rfl rfl ?_
 repeat (first|refine c_r ?_|refine rg0 ?_)
 refine wc0 ?_ ?_
 ·intro h
  simp only[decide_eq_true_eq]at h
  repeat (first|refine c_r ?_|refine rg0 ?_)
  refine rt0 Tryz.ntmps51 ?_
  exact⟨by rw[few,decide_eq_false (by omega)];rfl,Keep.refl _ _⟩
 ·intro h
  simp only[decide_eq_false_iff_not]at h
  repeat (first|refine c_r ?_|refine rg0 ?_)
  refine zas (fun m σ ds A=>ds=[]∧∃i:Nat,i+m=xs.length∧σ 3=vi i∧σ 0= .slice a xs.length ca∧Ext w A∧∀l∈xs.take i,l.length≤100) xs.length ?_ ?_
  ·refine⟨rfl,0,by omega,?_,?_,Keep.refl _ _,by simp⟩<;>simp only[go_sem]<;>rfl
  ·rintro m σ ds A ⟨rfl,i,him,h3,h0,hE,hall⟩
   repeat refine c_r ?_
   refine rg2 h3 h0 ?_
   repeat refine c_r ?_
   refine wc0 ?_ ?_
   ·intro hlt
    simp only[decide_eq_true_eq]at hlt
    have hsa:a.isSome=true:=zae (hla i (by omega))
    have hla':=fun j h=>zaa hE (hla j h)
    repeat refine c_r ?_
    refine rq ?_;intro gd K hgd hK;simp (disch:=first|omega|assumption|rfl) only[go_sem,h3,h0,hla',List.getElem_map];refine hK _ _ ?_;clear hK hgd;clear K gd
    repeat refine c_r ?_
    refine wc0 ?_ ?_
    ·intro hb
     simp only[decide_eq_true_eq]at hb
     repeat (first|refine c_r ?_|refine rg0 ?_)
     refine rt0 Tryz.ntmps51 ?_
     refine⟨?_,hE⟩
     have:few xs=false:=by
      rw[←Bool.not_eq_true]
      intro hf
      simp only[few,Bool.and_eq_true,List.all_eq_true,decide_eq_true_eq]at hf
      have:=hf.2 (xs[i]'(by omega)) (List.getElem_mem _)
      omega
     rw[this]
    ·intro hb
     simp only[decide_eq_false_iff_not]at hb
     repeat refine c_r ?_
     refine rg1 h3 ?_
     repeat refine c_r ?_
     refine⟨m - 1,by omega,rfl,i+1,by omega,by simp only[go_sem];push_cast;rfl,(vq1 h0),hE,fun l hl=>?_⟩
     rw[zag (by omega)]at hl
     rcases List.mem_append.1 hl with hl|hl
     ·exact hall l hl
     ·rw[List.mem_singleton.1 hl];omega
   ·intro hge
    simp only[decide_eq_false_iff_not]at hge
    repeat (first|refine c_r ?_|refine rg0 ?_)
    refine rt0 Tryz.ntmps51 ?_
    refine⟨?_,hE⟩
    rw[List.take_of_length_le (by omega)]at hall
    have:few xs=true:=by
     simp only[few,Bool.and_eq_true,List.all_eq_true,decide_eq_true_eq]
     exact⟨by omega,hall⟩
    rw[this]
def NamesAt(w:World)(v:Value)(ns:List Nm):Prop:=∃vals,Row w v vals∧vals.length=ns.length∧∀i (h:i<vals.length) (h':i<ns.length),Row w vals[i] (ns[i].map vs)
theorem zgk:∀a b:Nm,cmpR b a= - cmpR a b
 | [],[]=>rfl
 | [],_::_=>rfl
 |_::_,[]=>rfl
 |a::l,b::m=>by
  simp only[cmpR]
  rw[zdq a b]
  by_cases h:cmpL a b=0
  ·simp[h,zgk l m]
  ·have:¬ -cmpL a b=0:=by omega
   simp[h,this]
theorem zff:∀{a b:Nm},cmpR a b=0→a=b
 | [],[],_=>rfl
 | [],_::_,h=>by cases h
 |_::_,[],h=>by cases h
 |a::l,b::m,h=>by
  simp only[cmpR]at h
  split at h
  ·rename_i h';rw[zbt h',zff h]
  ·rename_i h';exact absurd h h'
theorem zeh:∀{a b c:Nm},cmpR a b<0→cmpR b c<0→cmpR a c<0
 | [],[],_,h,_=>by simp[cmpR]at h
 | [],_::_,[],_,h=>by simp[cmpR]at h
 | [],_::_,_::_,_,_=>by simp[cmpR]
 |_::_,[],_,h,_=>by simp[cmpR]at h
 |_::_,_::_,[],_,h=>by simp[cmpR]at h
 |a::l,b::m,c::n,h1,h2=>by
  simp only[cmpR]at*
  by_cases e1:cmpL a b=0
  ·rw[if_pos e1]at h1
   have:=zbt e1
   subst this
   by_cases e2:cmpL a c=0
   ·rw[if_pos e2]at h2 ⊢;exact zeh h1 h2
   ·rw[if_neg e2]at h2 ⊢;exact h2
  ·rw[if_neg e1]at h1
   have h2':cmpL b c≤0:=by
    by_cases e2:cmpL b c=0
    ·omega
    ·rw[if_neg e2]at h2;omega
   have:=zcI h1 h2'
   rw[if_neg (by omega)];exact this
theorem cmpN_neg(a b:Nm):cmpN b a= - cmpN a b:=zgk _ _
theorem zdN{a b:Nm}(h:cmpN a b=0):a=b:=by
 have:=zff h
 simpa using congrArg List.reverse this
theorem zgW{a b c:Nm}(h1:cmpN a b<0)(h2:cmpN b c<0):cmpN a c<0:=zeh h1 h2
theorem NamesAt.ext{w x:World}{v:Value}{L:List Nm}(h:NamesAt w v L)(hE:Ext w x):NamesAt x v L:=by
 obtain⟨vals,h1,h2,h3⟩:=h
 exact⟨vals,h1.ext hE,h2,fun i a b=>(h3 i a b).ext hE⟩
theorem zgQ(c:UInt8):zdL (zdL c)=zdL c:=by
 unfold zdL
 by_cases h:65≤c∧c≤90
 ·rw[if_pos h]
  have h1:¬(65≤c+32∧c+32≤90):=by
   obtain⟨h1,h2⟩:=h
   rw[UInt8.le_iff_toNat_le]at*
   rintro⟨h3,h4⟩
   rw[UInt8.le_iff_toNat_le]at*
   rw[UInt8.toNat_add]at*
   change (65:Nat)≤_ at h1
   change _≤(90:Nat)at h2
   change (65:Nat)≤(c.toNat+32) % 256 at h3
   change (c.toNat+32) % 256≤(90:Nat)at h4
   omega
  rw[if_neg h1]
 ·rw[if_neg h,if_neg h]
theorem zgO(l:Lab):zaS (zaS l)=zaS l:=by simp[zaS,zgQ,Function.comp_def]
theorem zef(n:Nm):zao (zao n)=zao n:=by simp[zao,zgO,Function.comp_def]
section
variable {A B C D E F G H I : Prop}
theorem an2(a:A)(b:B):A∧B:=⟨a,b⟩
theorem an3(a:A)(b:B)(c:C):A∧B∧C:=⟨a,b,c⟩
theorem an4(a:A)(b:B)(c:C)(d:D):A∧B∧C∧D:=⟨a,b,c,d⟩
theorem an5(a:A)(b:B)(c:C)(d:D)(e:E):A∧B∧C∧D∧E:=⟨a,b,c,d,e⟩
theorem an6(a:A)(b:B)(c:C)(d:D)(e:E)(f:F):A∧B∧C∧D∧E∧F:=⟨a,b,c,d,e,f⟩
theorem an7(a:A)(b:B)(c:C)(d:D)(e:E)(f:F)(g:G):A∧B∧C∧D∧E∧F∧G:=⟨a,b,c,d,e,f,g⟩
theorem an8(a:A)(b:B)(c:C)(d:D)(e:E)(f:F)(g:G)(h:H):A∧B∧C∧D∧E∧F∧G∧H:=⟨a,b,c,d,e,f,g,h⟩
theorem an9(a:A)(b:B)(c:C)(d:D)(e:E)(f:F)(g:G)(h:H)(i:I):A∧B∧C∧D∧E∧F∧G∧H∧I:=⟨a,b,c,d,e,f,g,h,i⟩
end
def gdOk:List (Nat×Nat)→(Nat→Option Tmp)→Prop
 | [],_=>True
 |p::l,gd=>gd p.1=some p.2∧gdOk l gd
theorem zfH{L:List Oper}:∀{gs:List (Nat×Nat)},(gs.all fun p=>dstL L p.1==some p.2)=true→gdOk gs (dstL L)
 | [],_=>trivial
 |p::l,h=>by
  simp only[List.all_cons,Bool.and_eq_true,beq_iff_eq]at h
  exact⟨h.1,zfH h.2⟩
theorem bi_un(b:Bool):zah undef b=false:=nr rfl
def Rest(P:Program)(Q:Post)(ds:List Deferred)(L:List Oper)(F:(Nat→Option Tmp)→(Sto→World→Prop)→Prop):Prop:=
 ∀(gd:Nat→Option Tmp) (K:Sto→World→Prop),gd=dstL L→(∀σ' w',Q .normal σ' ds w'→K σ' w')→F gd K
section
variable {P : Program} {r : Option Nat} {n : Nat} {Q : Post} {σ : Sto} {ds : List Deferred} {w : World} {p : Prop} {L : List Oper} {F : (Nat → Option Tmp) → (Sto → World → Prop) → Prop}
theorem wt{c:Operand}{x y:Code}(h:p)(ht:W P r n x Q σ ds w)(hc:p→ev n σ c= .bool true:=by intro h1;first| (simp only[go_sem,h1];done)| (simp only[go_sem,h1];rfl)):W P r n (.cond c x y) Q σ ds w:=zaL (hc h) (fun _=>ht) (fun h=>by cases h)
theorem wf{c:Operand}{x y:Code}(h:p)(ht:W P r n y Q σ ds w)(hc:p→ev n σ c= .bool false:=by intro h1;first| (simp only[go_sem,h1];done)| (simp only[go_sem,h1];rfl)):W P r n (.cond c x y) Q σ ds w:=zaL (hc h) (fun h=>by cases h) (fun _=>ht)
theorem ro{id:Nat}{ops:Array Oper}(h:Rest P Q ds ops.toList (fun gd K=>opsV P gd n ops.toList σ w K))(hd:zaQ ops=true:=by rfl):W P r n (.region id ops false) Q σ ds w:=zcM hd fun gd K hgd hK=>h gd K hgd hK
theorem rd{f:FuncId}{args:Array Value}{w1:World}{R:Value→World→Prop}{C:(Nat→Option Tmp)→(Sto→World→Prop)→Value→World→Prop}(h:p)(hF:Fn P f args w1 R)(hr:∀v w',R v w'→Rest P Q ds L (fun gd K=>C gd K v w'))
  (hs:p→∀(gd:Nat→Option Tmp) (K:Sto→World→Prop),F gd K=Fn P f args w1 (fun v w'=>C gd K v w'):=by intro h1 gd K;(simp (disch:=first|omega|assumption|rfl) only[go_sem,h1])<;>exact rfl):Rest P Q ds L F:=
 fun gd K hgd hK=>(hs h gd K).mpr (Fn.mono hF fun v w' hR=>hr v w' hR gd K hgd hK)
theorem rc{id:Nat}{ops:Array Oper}{f:FuncId}{args:Array Value}{w1:World}{R:Value→World→Prop}{C:(Nat→Option Tmp)→(Sto→World→Prop)→Value→World→Prop}(h:p)(hF:Fn P f args w1 R)(hr:∀v w',R v w'→Rest P Q ds ops.toList (fun gd K=>C gd K v w'))
  (hs:p→∀(gd:Nat→Option Tmp) (K:Sto→World→Prop),opsV P gd n ops.toList σ w K=Fn P f args w1 (fun v w'=>C gd K v w'):=by intro h1 gd K;(simp (disch:=first|omega|assumption|rfl) only[go_sem,h1])<;>exact rfl)
  (hd:zaQ ops=true:=by rfl):W P r n (.region id ops false) Q σ ds w:=ro (rd h hF hr hs) hd
theorem re{σ1:Sto}{w1:World}(h:p)(hq:Q .normal σ1 ds w1)
  (hs:p→∀(gd:Nat→Option Tmp) (K:Sto→World→Prop),F gd K=K σ1 w1:=by intro h1 gd K;(first| (simp (disch:=first|omega|assumption|rfl) only[go_sem,h1])|skip)<;>exact rfl):Rest P Q ds L F:=
 fun gd K _ hK=>(hs h gd K).mpr (hK _ _ hq)
theorem rdg(gs:List (Nat×Nat)){f:FuncId}{args:Array Value}{w1:World}{R:Value→World→Prop}{C:(Nat→Option Tmp)→(Sto→World→Prop)→Value→World→Prop}(h:p)(hF:Fn P f args w1 R)(hr:∀v w',R v w'→Rest P Q ds L (fun gd K=>C gd K v w'))
  (hs:p→∀(gd:Nat→Option Tmp) (K:Sto→World→Prop),gdOk gs gd→F gd K=Fn P f args w1 (fun v w'=>C gd K v w'):=by intro h1 gd K hg;simp only[gdOk]at hg;(simp (disch:=first|omega|assumption|rfl) only[go_sem,zab,zbn,bi_un,hg,h1])<;>exact rfl)
  (hg:(gs.all fun p=>dstL L p.1==some p.2)=true:=by exact rfl):Rest P Q ds L F:=
 fun gd K hgd hK=>(hs h gd K (hgd▸zfH hg)).mpr (Fn.mono hF fun v w' hR=>hr v w' hR gd K hgd hK)
theorem rcg(gs:List (Nat×Nat)){id:Nat}{ops:Array Oper}{f:FuncId}{args:Array Value}{w1:World}{R:Value→World→Prop}{C:(Nat→Option Tmp)→(Sto→World→Prop)→Value→World→Prop}(h:p)(hF:Fn P f args w1 R)(hr:∀v w',R v w'→Rest P Q ds ops.toList (fun gd K=>C gd K v w'))
  (hs:p→∀(gd:Nat→Option Tmp) (K:Sto→World→Prop),gdOk gs gd→opsV P gd n ops.toList σ w K=Fn P f args w1 (fun v w'=>C gd K v w'):=by intro h1 gd K hg;simp only[gdOk]at hg;(simp (disch:=first|omega|assumption|rfl) only[go_sem,zab,zbn,bi_un,hg,h1])<;>exact rfl)
  (hg:(gs.all fun p=>dstL ops.toList p.1==some p.2)=true:=by exact rfl) (hd:zaQ ops=true:=by rfl):W P r n (.region id ops false) Q σ ds w:=ro (rdg gs h hF hr hs hg) hd
theorem reg(gs:List (Nat×Nat)){σ1:Sto}{w1:World}(h:p)(hq:Q .normal σ1 ds w1)
  (hs:p→∀(gd:Nat→Option Tmp) (K:Sto→World→Prop),gdOk gs gd→F gd K=K σ1 w1:=by intro h1 gd K hg;simp only[gdOk]at hg;(first| (simp (disch:=first|omega|assumption|rfl) only[go_sem,zab,zbn,bi_un,hg,h1])|skip)<;>exact rfl)
  (hg:(gs.all fun p=>dstL L p.1==some p.2)=true:=by exact rfl):Rest P Q ds L F:=
 fun gd K hgd hK=>(hs h gd K (hgd▸zfH hg)).mpr (hK _ _ hq)
theorem rgg(gs:List (Nat×Nat)){id:Nat}{ops:Array Oper}{σ1:Sto}{w1:World}(h:p)(hq:Q .normal σ1 ds w1)
  (hs:p→∀(gd:Nat→Option Tmp) (K:Sto→World→Prop),gdOk gs gd→opsV P gd n ops.toList σ w K=K σ1 w1:=by intro h1 gd K hg;simp only[gdOk]at hg;(simp (disch:=first|omega|assumption|rfl) only[go_sem,zab,zbn,bi_un,hg,h1])<;>exact rfl)
  (hg:(gs.all fun p=>dstL ops.toList p.1==some p.2)=true:=by exact rfl) (hd:zaQ ops=true:=by rfl):W P r n (.region id ops false) Q σ ds w:=ro (reg gs h hq hs hg) hd
end
end Go.Proofs.YtanmnkbccfcagaaGreatDoor
namespace Go.Proofs.YtanmnkbccfcagaaGreatDoor
open Go Go.ChangeShapes Go.WideShapes Go.ChangeAt Go.RowKit Go.WideElems
theorem Ext.below{w x:World}(h:Ext w x):RowKit.Below w.heap.size w x:=⟨h.os,h.tape,h.output,h.size,fun k hk=>h.block k hk (fun h=>h)⟩
theorem Ext.kept{w x:World}(h:Ext w x)(may:MemPlace→Prop):w.keptBut x may:=by
 refine⟨h.os,h.output,fun i hi=>?_⟩
 rw[h.block i hi (fun h=>h)]
 cases hw:w.heap[i]? with
 |none=>trivial
 |some o=>cases o<;>simp
theorem zcy{H:Type}{enc:TypeId×Value→H}{P:Program}(hl:laidOutB P=true){W W':World}{sp:Nat→Bool}(hE:Ext W W'):
  ∀{ts:List TypeId} {vs:List Value} {ds:List (DataW H)} {ps:List MemPlace},(∀t∈ts,P.readableRec t=true∧t<P.types.size)→DataW.TrodAll enc P W 0 (fun _=>true) true ts vs ds ps→(∀x∈ps,x.block<W.heap.size)→(∀x∈ps,sp x.block=true)→
   DataW.TrodAll enc P W' 0 sp true ts vs ds ps
 | [],_,_,_,_,h,_,_=>by
  obtain⟨rfl,rfl,rfl⟩:=trodAll_nil h
  exact trodAll_mk0
 |_::_,_,_,_,ht,h,hlt,hs=>by
  obtain⟨v,vs1,d,ds1,a,b,rfl,rfl,rfl,h1,h2⟩:=trodAll_cons h
  obtain⟨hr,hrow⟩:=ht _ (List.mem_cons_self ..)
  exact trodAll_cons_mk (WideElems.Trod_stays hl hr hrow h1 (fun x hx=>hE.below.same (hlt x (List.mem_append_left _ hx))) (fun x hx=>hs x (List.mem_append_left _ hx)))
   (zcy hl hE (fun t h=>ht t (List.mem_cons_of_mem _ h)) h2 (fun x hx=>hlt x (List.mem_append_right _ hx)) (fun x hx=>hs x (List.mem_append_right _ hx)))
theorem zgK{w x:World}(h:Ext w x){b:Nat}(hb:b<w.heap.size)(o:Nat):x.frozen? ⟨b,o,Option.none⟩=w.frozen? ⟨b,o,Option.none⟩:=by
 unfold World.frozen?
 rw[h.block b hb (fun h=>h)]
theorem law_post{H:Type}{enc:TypeId×Value→H}{P:Program}{f:Func}{s:ChangeSpec}{apart fresh handsOn again:Bool}{W W':World}{args:Array Value}{ds gs:List (DataW H)}{before:List MemPlace}
  (hW:DataW.Whole enc P f.params.toList s.vars apart W args.toList ds gs before) (hvn:s.vars=[]) (hspec:s.fn H ds={results:=[.lit (.bool true)],args:=ds}) {tb:TypeId} (hrt:f.resultTypes=#[tb]) (htb:P.underlying tb=some .bool)
  (hl:laidOutB P=true) (hrd:∀t∈f.params.toList,P.readableRec t=true∧t<P.types.size) (hE:Ext W W'):s.post enc P f apart fresh handsOn again W args (.bool true) W':=by
 have hlt:=hW.lt
 have hW0:=hW
 obtain⟨p,q,hA,hV,hpq,hfz,hnd⟩:=hW
 have hq:gs=[]∧q=[]:=by
  rw[hvn]at hV
  cases gs with
  |nil=>exact⟨rfl,hV⟩
  |cons _ _=>exact hV.elim
 obtain⟨rfl,rfl⟩:=hq
 rw[List.append_nil]at hpq
 subst hpq
 have hres:∀(b:Nat) (sp:Nat→Bool) (hd:Bool),DataW.TrodAll enc P W' b sp hd f.resultTypes.toList ((Value.bool true).resultList f.resultTypes.size) (s.fn H (ds++ [])).results []:=fun b sp hd=>by
  rw[List.append_nil,hspec,hrt]
  exact trodAll_mk1 (shut_bool htb true)
 have hargs:∀sp:Nat→Bool,(∀x∈before,sp x.block=true)→DataW.TrodAll enc P W' 0 sp true f.params.toList args.toList (s.fn H (ds++ [])).args before:=fun sp hs=>by
  rw[List.append_nil,hspec]
  exact zcy hl hE hrd hA hlt hs
 have hvars:∀sp:Nat→Bool,DataW.TrodVars enc P W' sp s.vars (s.fn H (ds++ [])).vars []:=fun sp=>by
  rw[List.append_nil,hspec,hvn];rfl
 have hold:∀x∈before,(fun b=>decide (b<W.heap.size)) x.block=true:=fun x hx=>by simpa using hlt x hx
 refine⟨ds,[],before,[],before,[],hW0,hres _ _ _,hargs _ hold,hvars _,hE.kept _,fun _=>?_⟩
 refine⟨fun j t r h1 h2=>?_,_,_,([]++before)++ [],⟨[]++before,[],trodAll_append (hargs _ (fun _ _=>rfl)) (hres _ _ _),hvars _,rfl,?_,?_⟩,?_⟩
 ·rw[hrt]at h1 h2
  match j with
  |0=>
   simp at h1
   subst h1
   have:r= .bool true:=by simpa [Value.resultList] using h2.symm
   subst this
   exact okWide_bool_mk htb true
  |j+1=>simp at h1
 ·intro b off hp
  have hp':MemPlace.cell b off∈before:=by simpa using hp
  rw[zgK hE (show b<W.heap.size from hlt _ hp')]
  exact hfz b off hp'
 ·intro ha
  simpa using hnd ha
 ·intro x hx _
  simpa using hx
/-! arguments -/
section
variable {H : Type} {enc : TypeId × Value → H} {P : Program} {w : World} {base : Nat} {sp : Nat → Bool} {held : Bool}
def Rd(enc:TypeId×Value→H)(P:Program)(w:World)(base:Nat)(sp:Nat→Bool)(held:Bool)(t:TypeId)(v:Value):Prop:=∃n x,DataW.trod enc P w base sp held n t [v]=some x∧∀k∈x.1.weights P t,k≤reachBytes
theorem zbO{e:TypeId}{d:DataW H}{k:Nat}:∀{l:List (DataW H)},d∈l→k∈d.weights P e→k∈DataW.weightsAll P e l
 |a::l,hd,hk=>by
  simp only[DataW.weightsAll,List.mem_append]
  rcases List.mem_cons.1 hd with rfl|hd
  ·exact .inl hk
  ·exact .inr (zbO hd hk)
theorem zes{t e:TypeId}{v:Value}(h:Rd enc P w base sp held t v)(ht:P.underlying t=some (.slice e))(hc:P.cellsOf e=1):
  ∃vals,Row w v vals∧(∀u∈vals,Rd enc P w base sp held e u)∧vals.length*P.bytesOf e≤reachBytes:=by
 obtain⟨n,x,h,hw⟩:=h
 rcases Go.Deep.open_slice1 ht hc h with ⟨h1,_⟩| ⟨a,len,cap,m,k,V,D,Pl,h1,_,hl,hm,hmm,rfl,hx⟩
 ·simp only[List.cons.injEq,and_true]at h1
  subst h1
  exact⟨[],⟨Option.none,0,rfl,Nat.le_refl _,fun j h=>by simp at h⟩,fun u h=>(by cases h),by simp⟩
 ·simp only[List.cons.injEq,and_true]at h1
  subst h1
  have hml:len≤m:=by rw[hmm];split<;>omega
  simp only[DataW.weights,ht]at hw
  refine⟨(List.range len).map V,⟨some a,cap,by simp,by simpa using hl,fun j hj=>?_⟩,fun u hu=>?_,?_⟩
  ·simp at hj
   have:=(hx j (by omega)).1
   simpa [zaf,adr] using this
  ·obtain⟨j,hj,rfl⟩:=List.mem_map.1 hu
   simp at hj
   refine⟨_,_,(hx j (by omega)).2,fun q hq=>hw q (List.mem_cons_of_mem _ (List.mem_append_left _ (zbO (d:=D j) ?_ hq)))⟩
   exact List.mem_map.2 ⟨j,by simpa using hj,rfl⟩
  ·have h1:=hw _ (List.mem_cons_self ..)
   have h2:((List.range len).map V).length*P.bytesOf e≤(((List.range len).map D).length+((List.range (m - len)).map fun j=>D (len+j)).length)*P.bytesOf e:=Nat.mul_le_mul (by simp) (Nat.le_refl _)
   omega
theorem zhz{t:TypeId}{v:Value}(h:Rd enc P w base sp held t v)(ht:P.underlying t=some .string):∃s:List UInt8,v=vs s∧s.length≤reachBytes:=by
 obtain⟨n,x,h,hw⟩:=h
 cases n with
 |zero=>cases h
 |succ n=>
  unfold DataW.trod at h
  rw[ht]at h
  cases v<;>simp at h
  rename_i s
  obtain⟨_,rfl⟩:=h
  exact⟨s.data.toList,by simp[vs],by simpa [DataW.weights,ByteArray.toList_eq] using hw⟩
theorem zea{t:TypeId}{v:Value}{d:DataW H}{p:List MemPlace}{ts:List TypeId}{ds:List (DataW H)}(h:DataW.Trod enc P w base sp held t v d p)(hv:v.cells.toList=[v])
  (hw:∀x∈DataW.weightsEach P ts ds,x≤reachBytes) {j:Nat} (ht:ts[j]? =some t) (hd:ds[j]? =some d):Rd enc P w base sp held t v:=by
 obtain⟨n,h⟩:=h
 rw[hv]at h
 exact⟨n,_,h,fun k hk=>hw k (DataW.weights_mem_each ht hd k hk)⟩
theorem zfE{α β:Type}{f:α→β}{Q:α→Prop}:∀{l:List β},(∀u∈l,∃s,u=f s∧Q s)→∃m:List α,l=m.map f∧∀s∈m,Q s
 | [],_=>⟨[],rfl,fun s h=>by cases h⟩
 |b::l,h=>by
  obtain⟨s,rfl,hq⟩:=h b (List.mem_cons_self ..)
  obtain⟨m,rfl,hm⟩:=zfE (fun u hu=>h u (List.mem_cons_of_mem _ hu))
  refine⟨s::m,rfl,fun x hx=>?_⟩
  rcases List.mem_cons.1 hx with rfl|hx
  ·exact hq
  ·exact hm x hx
end
end Go.Proofs.YtanmnkbccfcagaaGreatDoor
namespace Go.Proofs.YtanmnkbccfcagaaGreatDoor
open Go
section
variable {H : Type} {enc : TypeId × Value → H} {P : Program} {w : World} {base : Nat} {sp : Nat → Bool} {held : Bool}
structure NmOk(n:Nm):Prop where
 lb:LB n
 len:n.length≤8796093022207
theorem reach_lt:reachBytes<140737488355328:=by decide
theorem zet{t e:TypeId}{v:Value}(h:Rd enc P w base sp held t v)(ht:P.underlying t=some (.slice e))(hc:P.cellsOf e=1)(he:P.underlying e=some .string)(hb:P.bytesOf e=16):∃n:Nm,Row w v (n.map vs)∧NmOk n:=by
 obtain⟨vals,hr,hall,hl⟩:=zes h ht hc
 obtain⟨m,rfl,hm⟩:=zfE (f:=vs) (fun u hu=>zhz (hall u hu) he)
 have:=reach_lt
 rw[hb]at hl
 exact⟨m,hr,fun l hl=>by have:=hm l hl;omega,by simp at hl;omega⟩
theorem rd_names{t ts tb:TypeId}{v:Value}(h:Rd enc P w base sp held t v)(ht:P.underlying t=some (.slice ts))(hc:P.cellsOf ts=1)(ht2:P.underlying ts=some (.slice tb))(hc2:P.cellsOf tb=1)(he:P.underlying tb=some .string)(hb:P.bytesOf tb=16):
  ∃L:List Nm,NamesAt w v L∧∀n∈L,NmOk n:=by
 obtain⟨vals,hr,hall,hlen0⟩:=zes h ht hc
 have:∃L:List Nm,(vals.length=L.length∧∀i (h:i<vals.length) (h':i<L.length),Row w vals[i] (L[i].map vs))∧∀n∈L,NmOk n:=by
  clear hr h hlen0
  induction vals with
  |nil=>exact⟨[],⟨rfl,fun i h=>by simp at h⟩,fun n h=>by cases h⟩
  |cons u vals ih=>
   obtain⟨n,hn,hok⟩:=zet (hall u (List.mem_cons_self ..)) ht2 hc2 he hb
   obtain⟨L,⟨h1,h2⟩,h3⟩:=ih (fun x hx=>hall x (List.mem_cons_of_mem _ hx))
   refine⟨n::L,⟨by simp[h1],fun i a b=>?_⟩,fun x hx=>?_⟩
   ·cases i with
    |zero=>exact hn
    |succ i=>exact h2 i (by simpa using a) (by simpa using b)
   ·rcases List.mem_cons.1 hx with rfl|hx
    ·exact hok
    ·exact h3 x hx
 obtain⟨L,⟨h1,h2⟩,h3⟩:=this
 exact⟨L,⟨vals,hr,h1,h2⟩,h3⟩
end
class Tr (p:World→Prop):Prop where
 tr:∀{w x:World},Ext w x→p w→p x
theorem tr{p:World→Prop}[h:Tr p]{w x:World}(hE:Ext w x)(hp:p w):p x:=h.tr hE hp
instance Tr.and{p q:World→Prop}[Tr p][Tr q]:Tr fun w=>p w∧q w:=⟨fun hE h=>⟨tr hE h.1,tr hE h.2⟩⟩
instance Tr.cell{a:Option Addr}{v:Value}:Tr fun w=>zaf w a=some v:=⟨fun hE h=>zaa hE h⟩
instance Tr.cells{a:Option Addr}{k:Nat}{l:List Value}:Tr fun w=>zav w a k=some l:=⟨fun hE h=>zai hE h⟩
instance Tr.ext{w0:World}:Tr fun w=>Ext w0 w:=⟨fun hE h=>h.trans hE⟩
instance Tr.row{v:Value}{l:List Value}:Tr fun w=>Row w v l:=⟨fun hE h=>h.ext hE⟩
instance Tr.obj{b:Nat}{o:Obj}:Tr fun w=>w.heap[b]? =some o:=⟨fun hE h=>Ext.at hE h⟩
instance Tr.const{p:Prop}:Tr fun _=>p:=⟨fun _ h=>h⟩
instance Tr.all{α:Sort _}{p:α→World→Prop}[∀a,Tr (p a)]:Tr fun w=>∀a,p a w:=⟨fun hE h a=>tr hE (h a)⟩
instance Tr.ex{α:Sort _}{p:α→World→Prop}[∀a,Tr (p a)]:Tr fun w=>∃a,p a w:=⟨fun hE h=>h.elim fun a h=>⟨a,tr hE h⟩⟩
attribute [go_sem] decide_true decide_false
theorem sc{p q:Prop}(h:p)(hs:p→q=True:=by intro h1;simp only[go_sem,h1]):q:=(hs h).mpr trivial
/-! many steps at once -/
structure Gto(p q:Prop):Prop where
 of:q→p
section
variable {P : Program} {r : Option Nat} {n : Nat} {Q : Post} {σ : Sto} {ds : List Deferred} {w : World} {p q s : Prop} {L : List Oper} {F : (Nat → Option Tmp) → (Sto → World → Prop) → Prop}
theorem zh3:Gto p p:=⟨id⟩
theorem gto_c(h:Ctl p q)(k:Gto q s):Gto p s:=⟨fun g=>c_r (k.of g) h⟩
theorem gto_r{id:Nat}{ops:Array Oper}{σ1:Sto}{w1:World}(hs:∀(gd:Nat→Option Tmp) (K:Sto→World→Prop),gd=dstL ops.toList→opsV P gd n ops.toList σ w K=K σ1 w1)(hd:zaQ ops=true)(k:Gto (Q .normal σ1 ds w1) q):
  Gto (W P r n (.region id ops false) Q σ ds w) q:=⟨fun g=>zcM hd fun gd K hgd hK=>(hs gd K hgd).mpr (hK _ _ (k.of g))⟩
theorem gto_t{c:Operand}{x y:Code}(hc:ev n σ c= .bool true)(k:Gto (W P r n x Q σ ds w) q):Gto (W P r n (.cond c x y) Q σ ds w) q:=⟨fun g=>zaL hc (fun _=>k.of g) (fun h=>by cases h)⟩
theorem gto_f{c:Operand}{x y:Code}(hc:ev n σ c= .bool false)(k:Gto (W P r n y Q σ ds w) q):Gto (W P r n (.cond c x y) Q σ ds w) q:=⟨fun g=>zaL hc (fun h=>by cases h) (fun _=>k.of g)⟩
theorem go(h:p)(hq:s)(hs:p→Gto q s:=by
  intro h1
  repeat (first
   | (apply gto_c;· (with_reducible constructor)<;>exact rfl)
   | (apply gto_r;(intro gd K hgd;(simp (disch:=first|omega|assumption|rfl) only[go_sem,h1])<;>with_reducible exact rfl);rfl)
   | (apply gto_t;· first| (simp only[go_sem,h1];done)| (simp only[go_sem,h1];exact rfl))
   | (apply gto_f;· first| (simp only[go_sem,h1];done)| (simp only[go_sem,h1];exact rfl)))
  exact zh3):q:=(hs h).of hq
theorem rgo{σ1:Sto}{w1:World}(h:p)(hq:s)
  (hs:p→∀(gd:Nat→Option Tmp) (K:Sto→World→Prop),F gd K=K σ1 w1:=by intro h1 gd K;(first| (simp (disch:=first|omega|assumption|rfl) only[go_sem,h1])|skip)<;>exact rfl)
  (hg:p→Gto (Q .normal σ1 ds w1) s:=by
   intro h1
   repeat (first
    | (apply gto_c;· (with_reducible constructor)<;>exact rfl)
    | (apply gto_r;(intro gd K hgd;(simp (disch:=first|omega|assumption|rfl) only[go_sem,h1])<;>with_reducible exact rfl);rfl)
    | (apply gto_t;· first| (simp only[go_sem,h1];done)| (simp only[go_sem,h1];exact rfl))
    | (apply gto_f;· first| (simp only[go_sem,h1];done)| (simp only[go_sem,h1];exact rfl)))
   exact zh3):Rest P Q ds L F:=
 re (p:=True) trivial ((hg h).of hq) fun _=>hs h
theorem zc6{c:Code}(N:Nat)(I:Nat→Sto→World→Prop)(h0:I 0 σ w)
  (hs:∀i σ w,i<N→(decide ((i:Int)<(N:Int))=true∧(0:Int)≤(i:Int)∧(i:Int)<(N:Int)∧(i:Int)+1=((i+1:Nat):Int))→I i σ w→W P r n c (zcA (fun σ ds w=>ds=[]∧I (i+1) σ w) Q) σ [] w)
  (he:∀σ w,decide ((N:Int)<(N:Int))=false→I N σ w→W P r n c (zcA (fun _ _ _=>False) Q) σ [] w):W P r n (.loop c) Q σ [] w:=by
 refine zas (fun m σ ds w=>ds=[]∧∃i,i+m=N∧I i σ w) N ⟨rfl,0,by omega,h0⟩ ?_
 rintro m σ ds w ⟨rfl,i,him,hI⟩
 by_cases h:i<N
 ·refine zaA (hs i σ w h ⟨decide_eq_true (by omega),by omega,by omega,by push_cast;rfl⟩ hI) ?_
  intro e σ' ds' w' hq
  cases e<;>first|exact hq|exact⟨m - 1,by omega,hq.1,i+1,by omega,hq.2⟩
 ·have e1:i=N:=by omega
  subst e1
  refine zaA (he σ w (decide_eq_false (by omega)) hI) ?_
  intro e σ' ds' w' hq
  cases e<;>first|exact hq|exact hq.elim
end
set_option maxRecDepth 10000
structure WX(w:World):Prop where
 ml:∃m,w.cell? ⟨0,0,Option.none⟩=some (.int .i64 m)
 p10:∃t fr,w.heap[1]? =some (.cells (Lib.pow10Tab.map fun z=>Value.int .u64 z).toArray t fr)
 er:∃t p,w.cell? ⟨3,0,Option.none⟩=some (.iface t p)
 tz:∃x,w.cell? ⟨6,15,Option.none⟩=some (.int .u8 x)∧0≤x∧x<256
theorem WX.ext{w x:World}(h:WX w)(hE:Ext w x):WX x:=by
 obtain⟨m,h1⟩:=h.ml
 obtain⟨t,fr,h2⟩:=h.p10
 obtain⟨u,p,h3⟩:=h.er
 obtain⟨x,h4,h5⟩:=h.tz
 exact⟨⟨m,zcL hE h1⟩,⟨t,fr,hE.at h2⟩,⟨u,p,zcL hE h3⟩,⟨x,zcL hE h4,h5⟩⟩
instance WX.tr:Tr WX:=⟨fun hE h=>h.ext hE⟩
theorem zcr(w:World):∀n,(w.drewN n).drawn=w.drawn+n
 |0=>rfl
 |n+1=>by
  have:=zcr w n
  simp only[World.drewN]at this ⊢
theorem Ext.drewN(w:World)(n:Nat):Ext w (w.drewN n):=⟨rfl,rfl,rfl,Nat.le_refl _,fun _ _ _=>rfl,by rw[zcr];omega⟩
theorem Ext.of_below{w w':World}(h:RowKit.Below w.heap.size w w')(hd:w.drawn≤w'.drawn):Ext w w':=⟨h.os,h.tape,h.output,h.size,fun b hb _=>h.block b hb,hd⟩
theorem Ext.grow(w:World)(n:Nat)(os:Array Obj):Ext w (Go.Sort.grow (w.drewN n) os):=
 ⟨rfl,rfl,rfl,by show w.heap.size≤(w.heap++os).size;rw[Array.size_append];omega,fun b hb _=>by
  show(w.heap++os)[b]? =_
  rw[Array.getElem?_append_left hb],by show w.drawn≤(w.drewN n).drawn;rw[zcr];omega⟩
theorem zfb(w:World)(a:Addr)(n:Nat):(w.freeze a n).drawn=w.drawn:=by unfold World.freeze;split<;>rfl
theorem Ext.bytes(w:World)(e:TypeId)(s:ByteArray):Ext w (Lib.bytesWorld w e s):=
 Ext.of_below (Lib.bytesWorld_below _ _ _) (by
  unfold Lib.bytesWorld
  rw[zfb]
  exact Nat.le_succ _)
/-! contracts -/
/-! digits cut off both ends -/
section
variable {P : Program} {d : Option Tmp} {ty : TypeId} {ps : String} {af : Array Edge} {g : Option (Nat × Bool)} {ρ : Operand → Value} {w : World} {K : Value → World → Prop}
theorem zf6{x y:Operand}{ts:Array TypeId}{u z v:Value}{w':World}(hx:ρ x=u)(hy:ρ y=z)(hr:(Builtin.copy_ ts ty #[u,z]).run P w= .ok v w')(h:K v w'):
  opW P ⟨d,.call ⟨.builtin .copy,#[x,y],ts⟩,ty,ps,af,g⟩ ρ w K:=by
 simp only[opW,execOp,Sem.run_bind,resolve]
 simp only[Sem.run_pure,Result.andThen_ok,invoke,builtin]
 exact zan (s:=Builtin.copy_ ts ty (Array.map ρ #[x,y])) (by simpa [hx,hy] using hr) h
end
theorem Clone_ok(w:World)(s:Lab)(hs:s.length≤1000000000):Fn Tryz.prog 278 #[vs s] w (fun v w'=>v=vs s∧Ext w w'):=by
 refine enter Tryz.func278 Tryz.ntmps278 rfl rfl ?_
 refine go trivial ?_
 by_cases h0:s=[]
 ·subst h0
  refine wt (by decide:decide (((0:Nat):Int)=0)=true) ?_
  refine go trivial ?_
  refine rt0 Tryz.ntmps278 ?_
  exact⟨rfl,Keep.refl _ _⟩
 have hp:=List.length_pos_iff.2 h0
 have hd:decide ((s.length:Int)=0)=false:=decide_eq_false (by omega)
 refine wf hd ?_
 repeat refine c_r ?_
 refine rq ?_;intro gd K hgd hK
 try simp only[go_sem]
 refine zda (n:=s.length) rfl rfl rfl rfl (vq0) (vq0) (by show 1*_≤_;omega) (by omega) rfl ?_
 try simp only[go_sem]
 refine hK _ _ ?_;clear hK hgd;clear K;try clear gd
 repeat refine c_r ?_
 refine rq ?_;intro gd K hgd hK
 try simp only[go_sem]
 have hM:(madeCells #[Value.int .u8 0] s.length).size=s.length:=by simp[size_madeCells]
 refine zf6 (u:= .slice (some ⟨w.heap.size,0,Option.none⟩) s.length s.length) (z:=vs s) (vq0) (vq0)
  (Lib.run_copy_row_string (P:=Tryz.prog) _ _ _ _ 5 w.heap.size 0 s.length s.length ⟨s.toArray⟩ _ 5 rfl (by kernel_rfl) (World.alloc_heap_new w _) (by simp[ByteArray.size]) (by rw[hM];simp[ByteArray.size])) ?_
 rw[World.setRow_alloc_new]
 have hY:((madeCells #[Value.int .u8 0] s.length).toList.take 0++Lib.byteCells (⟨s.toArray⟩:ByteArray).data.toList++(madeCells #[Value.int .u8 0] s.length).toList.drop (0+(⟨s.toArray⟩:ByteArray).size)).toArray=(s.map zaj).toArray:=by
  rw[List.take_zero,List.nil_append,List.drop_of_length_le (by rw[Array.length_toList,hM];simp[ByteArray.size]),List.append_nil]
  rfl
 rw[hY]
 try simp only[go_sem]
 refine hK _ _ ?_;clear hK hgd;clear K;try clear gd
 have hb:(w.alloc (.cells (s.map zaj).toArray 5)).heap[w.heap.size]? =some (.cells (s.map zaj).toArray 5 (0,0)):=World.alloc_heap_new w _
 have hz0:(0:Int)≤0:=Int.le_refl _
 have hl1:(0:Int)<(s.length:Int):=by omega
 repeat refine c_r ?_
 refine rq ?_;intro gd K hgd hK
 try simp (disch:=first|omega|assumption|rfl) only[go_sem,hz0,hl1,Int.toNat_zero,Nat.zero_mul,zaH]
 refine zax (u:= .pointer (some ⟨w.heap.size,0,Option.none⟩)) (z:=vi s.length) (vq0) (vq0) (Lib.run_unsafeString_row (P:=Tryz.prog) _ _ _ _ 5 (by rfl) (by rfl) w.heap.size (s.map zaj).toArray.size (by unfold World.shape?;rw[hb]) s h0 (by simp) (by omega) (fun j y hj=>Lib.cells_of_row hb (s.map zaj).toArray.size j _ (by rw[List.take_of_length_le (by simp)];simp[hj,zaj]))) ?_
 have hfk:=Keep.to_ext (Ext.alloc w (.cells (s.map zaj).toArray 5)) rfl (fun b (hS:b=w.heap.size)=>by omega) (zcp (w.alloc (.cells (s.map zaj).toArray 5)) ⟨w.heap.size,0,Option.none⟩ s.length)
 try simp only[go_sem]
 refine hK _ _ ?_;clear hK hgd;clear K;try clear gd
 repeat refine c_r ?_
 refine rt0 Tryz.ntmps278 ?_
 exact⟨rfl,hfk⟩
/-! where the number is too great:an error,whatever the variable holds -/
theorem Bld.mono{B B':Nat}{w:World}{b:Nat}{bs:List UInt8}(h:Bld B w b bs)(hB:B'≤B):Bld B' w b bs:=by
 obtain⟨p,v,h1,h2,h3⟩:=h.ex
 exact⟨p,v,h1,h2,h3.mono hB⟩
theorem zg8(w:World)(n:Nat)(hn:n≤100000000000):extC Tryz.prog 231 #[vi n] w (fun v w'=>∃cs:Array Value,v= .slice (some ⟨w.heap.size,0,Option.none⟩) n cs.size∧w'=w.drew.drew.alloc (.cells cs 5 (0,0))∧n≤cs.size∧cs.size≤maxLen):=by
 obtain⟨cs,hrun,hle,hmax⟩:=Lib.run_makeNoZero (P:=Tryz.prog) w #[3] 31 5 rfl n (by omega)
 refine⟨_,_,?_,cs,rfl,rfl,hle,hmax (by unfold maxLen;omega)⟩
 rw[run_callFunc_extern Tryz.func231 (by kernel_rfl) (by kernel_rfl) (by kernel_rfl) (e:=Extern.BytealgMakeNoZero.makeNoZero #[3] #[31]) (by kernel_rfl),hrun]
 rfl
section
variable {P : Program} {d : Option Tmp} {ty : TypeId} {ps : String} {af : Array Edge} {g : Option (Nat × Bool)} {ρ : Operand → Value} {w : World} {K : Value → World → Prop}
theorem v_cap(a:Array Operand)(t:Array TypeId):opV P ⟨d,.call ⟨.builtin .cap,a,t⟩,ty,ps,af,g⟩ ρ w K=opL P ⟨d,.call ⟨.builtin .cap,a,t⟩,ty,ps,af,g⟩ ρ w K .mk:=nr rfl
theorem op_cap{x:Operand}{t e:TypeId}{a:Option Addr}{n c:Nat}(ht:tyU P t=some (.slice e))(hx:ρ x= .slice a n c)(h:K (vi c) w):opW P ⟨d,.call ⟨.builtin .cap,#[x],#[t]⟩,ty,ps,af,g⟩ ρ w K:=by
 simp only[opW,execOp,Sem.run_bind,resolve]
 simp only[Sem.run_pure,Result.andThen_ok,invoke,builtin]
 refine zan (s:=Builtin.cap_ #[t] ty (Array.map ρ #[x])) (v:=vi c) (w':=w) ?_ h
 simp[Builtin.cap_,hx,run_underlying (show P.underlying t=_ from ht),goInt]
end
attribute [go_sem ↓] v_cap
theorem zgI{w:World}{b n:Nat}(hb:w.heap[b]? =some (.cells #[.pointer (some ⟨b,0,Option.none⟩),.slice Option.none 0 0] 106 (0,0)))(hn:n≤100000000000):
  Fn Tryz.prog 190 #[.pointer (some ⟨b,0,Option.none⟩),vi n] w (fun _ w'=>Bld w.heap.size w' b []∧Keep (fun i=>i=b∨w.heap.size≤i) w w'):=by
 refine enter Tryz.func190 Tryz.ntmps190 rfl rfl ?_
 repeat refine c_r ?_
 refine zaK (fun _=>false) [(0,true),(1,true),(2,true),(3,true),(6,true),(9,true),(10,true),(11,true),(12,true),(13,true),(4,false),(5,true),(7,true),(8,false),(14,true),(15,true)] (zbR w.heap.size) mixed (by kernel_rfl) ?_;intro gd K x hgd hx hxe hK;have hx0:=zbc hxe;clear hxe
 have c1:zaf x (some ⟨b,1,Option.none⟩)=some (.slice Option.none 0 0):=zbF (Ext.at hx0 hb) rfl
 simp (disch:=first|omega|assumption|rfl) only[go_sem,c1]
 have hbs:b<w.heap.size:=(Array.getElem?_eq_some_iff.1 hb).1
 refine⟨zaU hbs,zaU hbs,?_⟩
 refine op_cap rfl (vr0) ?_
 refine⟨.inr (Keep.refl _ _),?_⟩
 simp (disch:=first|omega|assumption|rfl) only[go_sem,c1]
 rw[show (2:Int)*((0:Nat):Int)+(n:Int)=(n:Int) by omega]
 obtain⟨_,y1,hr,cs,rfl,hy,hle,hmx⟩:=zg8 x n hn
 have hEy:Ext x y1:=hy▸((Keep.drew NoS x).trans (Keep.drew NoS _)).trans (Ext.alloc _ _)
 refine⟨_,y1,hr,.inr hEy.keep,?_⟩
 have c2:zaf y1 (some ⟨b,1,Option.none⟩)=some (.slice Option.none 0 0):=zbF (Ext.at (hx0.trans hEy) hb) rfl
 have hnew:y1.heap[x.heap.size]? =some (.cells cs 5 (0,0)):=by rw[hy];exact zak _ _
 have hsy:y1.heap.size=x.heap.size+1:=by rw[hy];exact zat _ _
 have z0:(0:Int)≤((0:Nat):Int):=by omega
 simp (disch:=first|omega|assumption|rfl) only[go_sem,c2,z0,ite_self,Nat.sub_zero]
 refine hK _ _ ?_;clear hK hgd;clear K;try clear gd
 repeat refine c_r ?_
 refine rq ?_;intro gd K hgd hK
 try simp (disch:=first|omega|assumption|rfl) only[go_sem,c2]
 refine zf6 (u:= .slice (some ⟨x.heap.size,0,Option.none⟩) 0 cs.size) (z:= .slice Option.none 0 0) (vr0) (vr0) (run_copy_none _ _ _ _ 5 _ _ _ _ _ _ (by kernel_rfl) (by kernel_rfl) rfl) ?_
 try simp only[go_sem]
 refine hK _ _ ?_;clear hK hgd;clear K;try clear gd
 repeat refine c_r ?_
 refine rq ?_;intro gd K hgd hK
 try simp only[go_sem]
 refine zen (P:=Tryz.prog) (t:=31) (j:=1) (l:=[.pointer (some ⟨b,0,Option.none⟩),.slice Option.none 0 0]) (Ext.at (hx0.trans hEy) hb) (by simp) rfl rfl rfl ?_
 intro w3 hs3 hb3 hk3
 try simp only[go_sem]
 refine hK _ _ ?_;clear hK hgd;clear K;try clear gd
 repeat refine c_r ?_
 have hsx:=hx0.size
 have hn3:w3.heap[x.heap.size]? =some (.cells cs 5 (0,0)):=(hk3.block _ (by rw[hsy];omega) (fun h=>by have h:x.heap.size=b:=h;omega)).trans hnew
 refine zaB (.inl rfl) Tryz.ntmps190 rfl zay ?_
 refine⟨⟨⟨_,_,.inr rfl,by simpa using hb3,⟨rfl,.inr ⟨x.heap.size,cs.size,cs,rfl,hsx,hn3,Nat.zero_le _,hmx,by simp,rfl⟩⟩⟩⟩,?_⟩
 exact(((hx0.trans hEy).mono (fun i _ h=>h.elim)).trans (hk3.mono (fun i _ h=> .inl h)))
theorem zha{w:World}{b n:Nat}(hb:w.heap[b]? =some (.cells #[.pointer Option.none,.slice Option.none 0 0] 106 (0,0)))(hn:n≤100000000000):
  Fn Tryz.prog 121 #[.pointer (some ⟨b,0,Option.none⟩),vi n] w (fun _ w'=>Bld w.heap.size w' b []∧Keep (fun i=>i=b∨w.heap.size≤i) w w'):=by
 have hbs:b<w.heap.size:=(Array.getElem?_eq_some_iff.1 hb).1
 have d0:decide ((n:Int)<0)=false:=decide_eq_false (by omega)
 refine enter Tryz.func121 Tryz.ntmps121 rfl rfl ?_
 repeat refine c_r ?_
 refine rq ?_;intro gd K hgd hK
 try simp only[go_sem]
 refine Fn.mono (zbz (.inl rfl) hb) ?_
 rintro _ w1 ⟨hb1,hk1,hs1⟩
 try simp only[go_sem]
 refine hK _ _ ?_;clear hK hgd;clear K;try clear gd
 refine go d0 ?_
 have hb1s:b<w1.heap.size:=by omega
 refine zaK (fun _=>false) [(0,true),(1,true),(2,true),(3,true),(5,true),(6,true),(7,true),(8,true),(9,true),(11,true),(4,false),(10,true),(12,true)] (zbR w1.heap.size) mixed (by kernel_rfl) ?_;intro gd K x hgd hx hxe hK;have hx0:=zbc hxe;clear hxe
 have hbx:=Ext.at hx0 hb1
 have c1:zaf x (some ⟨b,1,Option.none⟩)=some (.slice Option.none 0 0):=zbF hbx rfl
 simp (disch:=first|omega|assumption|rfl) only[go_sem,c1]
 refine⟨zaU hb1s,zaU hb1s,?_⟩
 refine op_cap rfl (vr0) ?_
 refine⟨.inr (Keep.refl _ _),?_⟩
 simp (disch:=first|omega|assumption|rfl) only[go_sem,c1]
 refine hK _ _ ?_;clear hK hgd;clear K;try clear gd
 repeat refine c_r ?_
 have hkx:Keep (fun i=>i=b∨w.heap.size≤i) w x:=(hk1.mono fun i _ h=> .inl h).trans (hx0.mono fun i _ h=>h.elim)
 have hsx:=hx0.size
 refine wc0 ?_ ?_
 ·intro _
  refine go trivial ?_
  refine rc trivial (zgI hbx hn) ?_
  rintro _ w3 ⟨hB,hk3⟩
  refine rgo trivial ?_
  refine zaB (.inl rfl) Tryz.ntmps121 rfl zay ?_
  exact⟨hB.mono (by omega),hkx.trans (hk3.mono fun i _ h=>h.imp id fun h=>by omega)⟩
 ·intro _
  refine go trivial ?_
  refine zaB (.inl rfl) Tryz.ntmps121 rfl zay ?_
  exact⟨⟨⟨_,_,.inr rfl,hbx,Own.nil _ _ _⟩⟩,hkx⟩
section
variable {P : Program} {x : World} {e : TypeId} {K : Value → World → Prop}
theorem zd8{t:TypeId}{cur:Array Value}{l:List Value}(hl:l.length=cur.size)(h1:∀v∈l,one v=true)(hs:tyS P t=l.length)(hi:(P.info? t).isSome=true)
  (hK:∀w',Ext x w'→w'.heap.size=x.heap.size+1→w'.heap[x.heap.size]? =some (.cells l.toArray e (0,0))→K undef w'):stK P t (.pointer (some ⟨x.heap.size,0,Option.none⟩)) (.agg l.toArray) (x.alloc (.cells cur e (0,0))) K:=by
 have hB3:=zak x (.cells cur e (0,0))
 have hE4:=Ext.alloc x (.cells cur e (0,0))
 have hs4:=zat x (.cells cur e (0,0))
 refine zfY (P:=P) (t:=t) (l:=l) hB3 hl h1 hs hi ?_
 intro w5 hs5 hB5 hk5
 exact hK w5 (Keep.to_ext hE4 rfl (fun b hb=>by omega) hk5) (by omega) hB5
end
def TyC(cs:List Value)(x:Int×Lab):Prop:=cs=[vi x.1,vs x.2]
theorem TyC.shape:ziw 2 TyC:=⟨fun h=>by rw[h];rfl,fun h=>by
 rw[h]
 intro q hq
 rcases List.mem_cons.1 hq with rfl|hq
 ·rfl
 ·rw[List.mem_singleton.1 hq];rfl⟩
def tyTab:List (Int×Lab):=[(1,[65]),(2,[78,83]),(5,[67,78,65,77,69]),(6,[83,79,65]),(12,[80,84,82]),(15,[77,88]),(16,[84,88,84]),(28,[65,65,65,65]),(39,[68,78,65,77,69])]
def zcH(k:Int):List (Int×Lab)→Lab×Bool
 | []=>([],false)
 |x::T=>if x.1=k then(x.2,true) else zcH k T
theorem bs_tab{P:Program}{t e:TypeId}{parts:List (Nat×Value)}{w:World}{K:Value→World→Prop}(hC:bsC P t 9 parts=some (e,(tyTab.flatMap fun x=>[vi x.1,vs x.2]).toArray))
  (h:∀w1,Ext w w1→Rows 2 TyC w1 (.slice (some ⟨w.heap.size,0,Option.none⟩) 9 9) tyTab→K (.slice (some ⟨w.heap.size,0,Option.none⟩) 9 9) w1):bsL P t 9 parts w K .mk:=by
 unfold bsL bsK
 rw[hC]
 refine h _ (Ext.alloc w _) (Rows.close (xs:=tyTab) (c:=9) (by decide) fun i hi=>?_)
 have hb:=zak w (.cells (tyTab.flatMap fun x=>[vi x.1,vs x.2]).toArray e (0,0))
 have hi9:i<9:=hi
 match i,hi9 with
 |0,_=>exact⟨_,zam (o:=0) (k:=2) hb (by decide),rfl⟩
 |1,_=>exact⟨_,zam (o:=2) (k:=2) hb (by decide),rfl⟩
 |2,_=>exact⟨_,zam (o:=4) (k:=2) hb (by decide),rfl⟩
 |3,_=>exact⟨_,zam (o:=6) (k:=2) hb (by decide),rfl⟩
 |4,_=>exact⟨_,zam (o:=8) (k:=2) hb (by decide),rfl⟩
 |5,_=>exact⟨_,zam (o:=10) (k:=2) hb (by decide),rfl⟩
 |6,_=>exact⟨_,zam (o:=12) (k:=2) hb (by decide),rfl⟩
 |7,_=>exact⟨_,zam (o:=14) (k:=2) hb (by decide),rfl⟩
 |8,_=>exact⟨_,zam (o:=16) (k:=2) hb (by decide),rfl⟩
theorem zeL(w:World):Fn Tryz.prog 126 #[] w (fun v w'=>Rows 2 TyC w' v tyTab∧Ext w w'):=by
 refine enter Tryz.func126 Tryz.ntmps126 rfl rfl ?_
 refine go trivial ?_
 refine rq ?_;intro gd K hgd hK
 try simp only[go_sem]
 iterate 9
  refine⟨by kernel_rfl,?_⟩
  rw[show ∀n s,bdV Tryz.prog 245 [(0,vi n),(1,.string s)]=some (.agg #[vi n,.string s]) from fun n s=>by kernel_rfl]
  try simp only[go_sem]
 refine bs_tab (e:=245) (by kernel_rfl) ?_
 intro w1 hE1 hR
 try simp only[go_sem]
 refine hK _ _ ?_;clear hK hgd;clear K;try clear gd
 repeat refine c_r ?_
 refine rt0 Tryz.ntmps126 ?_
 exact⟨hR,hE1⟩
theorem zh7{w:World}{v:Value}{T:List (Int×Lab)}(h:Rows 2 TyC w v T)(hT:T.length≤1000)(k:Int):
  Fn Tryz.prog 125 #[v,vi k] w (fun u w'=>u= .tuple #[vs (zcH k T).1,.bool (zcH k T).2]∧Ext w w'):=by
 obtain⟨a,c,rfl,hc,hg⟩:=h.open
 refine enter Tryz.func125 Tryz.ntmps125 rfl rfl ?_
 refine go trivial ?_
 refine zc6 T.length (fun i σ x=>σ 9= .slice a T.length c∧σ 10=vi T.length∧σ 11=vi i∧σ 1=vi k∧zcH k T=zcH k (T.drop i)∧Ext w x) ?_ ?_ ?_
 ·exact⟨vr0,vr0,vr0,vr0,rfl,Keep.refl _ _⟩
 ·rintro i σ x hi p ⟨h9,h10,h11,h1,hf,hE⟩
  obtain⟨cs,g0,hcs⟩:=hg i hi
  have g:=zai hE g0
  obtain⟨y,hy⟩:∃y,T[i]=y:=⟨_,rfl⟩
  rw[hy]at hcs
  have hcs:cs=[vi y.1,vs y.2]:=hcs
  subst hcs
  obtain⟨xa,rfl⟩:=Option.isSome_iff_exists.1 (zaR g)
  obtain⟨xi,hxi⟩:∃xi,adr (some xa) (i*2)=some xi:=⟨_,rfl⟩
  rw[hxi]at g
  have hi0:(0:Int)≤(i:Int):=by omega
  have hi1:(i:Int)<(T.length:Int):=by omega
  have hi2:(i:Int)+1=((i+1:Nat):Int):=by push_cast;rfl
  refine go (an4 h9 h10 h11 p) ?_
  refine rq ?_;intro gd K hgd hK
  try simp (disch:=first|omega|assumption|rfl) only[go_sem,h9,h11,hi0,hi1,hxi,g]
  refine zd8 (P:=Tryz.prog) (l:=[vi y.1,vs y.2]) rfl ?_ rfl rfl ?_
  ·exact TyC.shape.ones (a:=y) rfl
  intro x1 hE1 hs1 hB1
  try simp only[go_sem]
  refine hK _ _ ?_;clear hK hgd;clear K;try clear gd
  have p0:=zbF (l:=[vi y.1,vs y.2]) (j:=0) hB1 rfl
  have p1:=zbF (l:=[vi y.1,vs y.2]) (j:=1) hB1 rfl
  rw[List.drop_eq_getElem_cons hi,hy]at hf
  by_cases he:y.1=k
  ·refine go (an5 p0 p1 h1 (decide_eq_true he) (Nat.zero_add 1)) ?_
   refine zaB (.inr rfl) Tryz.ntmps125 rfl (zal (v:=vs y.2) (vr0) (zal (v:= .bool true) (vr0) zay)) ?_
   rw[hf]
   unfold zcH
   rw[if_pos he]
   exact⟨rfl,hE.trans hE1⟩
  ·refine go (an8 p0 h1 (decide_eq_false he) h9 h10 h11 hi2 p) ?_
   refine⟨rfl,(vq1 h9),(vq1 h10),vq0,(vq1 h1),?_,hE.trans hE1⟩
   rw[hf]
   show(if y.1=k then _ else _)=_
   rw[if_neg he]
 ·rintro σ x p ⟨h9,h10,h11,h1,hf,hE⟩
  refine go (an4 h9 h10 h11 p) ?_
  refine zaB (.inr rfl) Tryz.ntmps125 rfl (zal (v:=vs []) (vr0) (zal (v:= .bool false) (vr0) zay)) ?_
  rw[hf,List.drop_length]
  exact⟨rfl,hE⟩
theorem ziv(w:World)(k:Int):Fn Tryz.prog 151 #[vi k] w (fun u w'=>u= .bool (zcH k tyTab).2∧Ext w w'):=by
 refine enter Tryz.func151 Tryz.ntmps151 rfl rfl ?_
 refine go trivial ?_
 refine rc trivial (zeL w) ?_
 rintro v w1 ⟨hR,hE1⟩
 refine rd trivial (zh7 hR (by decide) k) ?_
 rintro _ w2 ⟨rfl,hE2⟩
 refine rgo trivial ?_
 refine rt0 Tryz.ntmps151 ?_
 exact⟨rfl,hE1.trans hE2⟩
def zby(sep:Lab):List Lab→Lab
 | []=>[]
 |x::r=>x++r.flatMap fun y=>sep++y
def zar(xs:List Lab):Nat:=(xs.map List.length).sum
theorem zee{xs:List Lab}{i:Nat}(h:i<xs.length):zar (xs.take (i+1))=zar (xs.take i)+xs[i].length:=by
 unfold zar;rw[zag h,List.map_append,List.sum_append];simp
theorem zdn{xs:List Lab}(i:Nat):zar (xs.take i)≤zar xs:=by
 have h:=congrArg zar (List.take_append_drop i xs)
 unfold zar at*
 rw[List.map_append,List.sum_append]at h
 omega
theorem zex(sep:Lab)(r:List Lab):(r.flatMap fun y=>sep++y).length=sep.length*r.length+zar r:=by
 induction r with
 |nil=>simp[zar]
 |cons y r ih=>
  have:zar (y::r)=y.length+zar r:=by simp[zar]
  rw[List.flatMap_cons,List.length_append,List.length_append,ih,List.length_cons,this,Nat.mul_succ];omega
theorem zc7{w:World}{v:Value}{xs:List Lab}(h:Row w v (xs.map vs)){sep:Lab}(hx:xs.length≤1000000)(hs:1≤sep.length)(hs2:sep.length≤1000)(hl:zar xs≤1000000000):
  Fn Tryz.prog 58 #[v,vs sep] w (fun u w'=>u=vs (zby sep xs)∧Ext w w'):=by
 obtain⟨a,c,rfl,hc,hg⟩:=h
 rw[List.length_map]at hc
 rw[List.length_map]
 obtain⟨L,hL⟩:∃L,xs.length=L:=⟨_,rfl⟩
 have hgx:∀i (hi:i<xs.length),zaf w (adr a i)=some (vs xs[i]):=fun i hi=>by
  have:=hg i (by rw[List.length_map];exact hi)
  rw[List.getElem_map]at this
  exact this
 refine enter Tryz.func58 Tryz.ntmps58 rfl rfl ?_
 by_cases h0:L=0
 ·have hx0:xs=[]:=List.length_eq_zero_iff.1 (by omega)
  subst hx0
  refine go (show decide (((0:Nat):Int)=0)=true from rfl) ?_
  refine rt0 Tryz.ntmps58 ?_
  exact⟨rfl,Keep.refl _ _⟩
 have hL0:0<xs.length:=by omega
 have g0:=hgx 0 hL0
 obtain⟨xa,rfl⟩:=Option.isSome_iff_exists.1 (zae g0)
 rw[zaH]at g0
 have d0:decide ((L:Int)=0)=false:=decide_eq_false (by omega)
 have z0:(0:Int)≤0:=by decide
 have zL:(0:Int)<(L:Int):=by omega
 have t0:(0:Int).toNat=0:=rfl
 rw[hL]at hc ⊢
 obtain⟨x,r,hxr⟩:∃x r,xs=x::r:=by
  cases xs with
  |nil=>simp at hL0
  |cons x r=>exact⟨x,r,rfl⟩
 have hx0:xs[0]=x:=by simp only[hxr];rfl
 rw[hx0]at g0
 by_cases h1:L=1
 ·have hr:r=[]:=by rw[hxr]at hL;simp at hL;exact List.length_eq_zero_iff.1 (by omega)
  have d1:decide ((L:Int)=1)=true:=decide_eq_true (by omega)
  refine go (an7 d0 d1 z0 zL t0 zaH g0) ?_
  refine zaB (.inr rfl) Tryz.ntmps58 rfl (zal (v:=vs x) (vr0) zay) ?_
  rw[hxr,hr,show zby sep [x]=x by simp[zby]]
  exact⟨rfl,Keep.refl _ _⟩
 have d1:decide ((L:Int)=1)=false:=decide_eq_false (by omega)
 obtain⟨M,hM⟩:∃M,sep.length*(L - 1)=M:=⟨_,rfl⟩
 have hM1:M≤1000*1000000:=hM▸Nat.mul_le_mul hs2 (by omega)
 have dS:decide ((0:Int)<(sep.length:Int))=true:=decide_eq_true (by omega)
 have e1:(L:Int) - 1=((L - 1:Nat):Int):=by omega
 obtain⟨q,hq⟩:∃q,9223372036854775807 / (L - 1)=q:=⟨_,rfl⟩
 have hq1:1001≤q:=by rw[←hq,Nat.le_div_iff_mul_le (by omega)];omega
 have hq2:q≤9223372036854775807:=by rw[←hq];exact Nat.div_le_self _ _
 have e2:(9223372036854775807:Int).tdiv ((L - 1:Nat):Int)=(q:Int):=by
  rw[Int.tdiv_eq_ediv_of_nonneg (by omega),←hq,Int.natCast_ediv];rfl
 have nz:¬((L - 1:Nat):Int)=0:=by omega
 have d2:decide ((q:Int)≤(sep.length:Int))=false:=decide_eq_false (by omega)
 have e3:IntKind.i64.wrap ((sep.length:Int)*((L - 1:Nat):Int))=(M:Int):=by
  rw[←Int.natCast_mul,hM]
  exact wrap64 (by omega) (by omega)
 refine go (an8 d0 d1 dS e1 e2 nz d2 e3) ?_
 refine zc6 L (fun i σ v=>σ 0= .slice (some xa) L c∧σ 1=vs sep∧σ 5=vi (M+zar (xs.take i):Nat)∧σ 39= .slice (some xa) L c∧σ 40=vi L∧σ 41=vi i∧w=v) ?_ ?_ ?_
 ·have hM0:(0:Int)+(M:Int)=((M+zar (xs.take 0):Nat):Int):=by simp[zar]
  exact⟨vr0,vr0,(vq1 hM0),vr0,vr0,vr0,rfl⟩
 ·rintro i σ v hi p ⟨s0,s1,s5,s39,s40,s41,rfl⟩
  have hi':i<xs.length:=by omega
  have g:=hgx i hi'
  have ht:=zee hi'
  have hle:=zdn (xs:=xs) (i+1)
  obtain⟨y,hy⟩:∃y,xs[i]=y:=⟨_,rfl⟩
  rw[hy]at g ht
  obtain⟨N,hN⟩:∃N,M+zar (xs.take i)=N:=⟨_,rfl⟩
  rw[hN]at s5
  have hN2:M+zar (xs.take (i+1))=N+y.length:=by omega
  have hi0:(0:Int)≤(i:Int):=by omega
  have hi1:(i:Int)<(L:Int):=by omega
  have hi2:(i:Int)+1=((i+1:Nat):Int):=by push_cast;rfl
  have d3:decide ((9223372036854775807:Int) - (N:Int)<(y.length:Int))=false:=decide_eq_false (by omega)
  have e4:(N:Int)+(y.length:Int)=((N+y.length:Nat):Int):=by omega
  refine go (an9 s0 s1 s5 s39 s40 s41 p g (an4 hi0 hi1 d3 e4)) ?_
  refine⟨rfl,(vq1 s0),(vq1 s1),(vq1 hN2),(vq1 s39),(vq1 s40),(vq1 hi2),rfl⟩
 rintro σ v p ⟨s0,s1,s5,s39,s40,s41,rfl⟩
 have hlt:=zdn (xs:=xs) L
 refine go (an5 s39 s40 s41 p s0) ?_
 refine zaI ?_
 intro w1 hE1 hs1 hA
 refine rc s5 (zha (n:=M+zar (xs.take L)) hA (by omega)) ?_
 rintro _ w2 ⟨hB2,hk2⟩
 have hEv:Ext w w2:=Keep.to_ext hE1 rfl (fun b hb=>by omega) hk2
 have hs2':=hk2.size
 have g2:=zaa hEv g0
 have hlx:zar xs=x.length+zar r:=by rw[hxr];simp[zar]
 have hrL:r.length=L - 1:=by rw[hxr]at hL;simp at hL;omega
 refine rgo s0 ?_
 refine rc (an7 s0 z0 zL t0 zaH g2 s1) (zaC (s:=x) hB2 (by omega) (by simp;omega)) ?_
 rintro _ w3 ⟨hB3,hk3⟩
 have hE3:Ext w w3:=Keep.to_ext hEv rfl (fun b hb=>by omega) hk3
 have hs3:=hk3.size
 obtain⟨y1,hy1⟩:∃y1,adr (some xa) 1=some y1:=⟨_,rfl⟩
 have z1:(0:Int)≤1:=by decide
 have zl1:(1:Int)≤(L:Int):=by omega
 have t1:(1:Int).toNat=1:=rfl
 have hce:(if c=1 then some xa else some y1)=some y1:=if_neg (by omega)
 refine rgo (an7 s0 s1 z1 zl1 t1 hce hy1) ?_
 have hjl:=zex sep
 have hsr:sep.length*r.length=M:=by rw[hrL,hM]
 refine zc6 (L - 1) (fun i σ v=>σ 1=vs sep∧σ 8= .pointer (some ⟨w.heap.size,0,Option.none⟩)∧σ 63= .slice (some y1) (L - 1) (c - 1)∧σ 64=vi (L - 1:Nat)∧σ 65=vi i∧Ext w v∧w1.heap.size≤v.heap.size∧Bld w1.heap.size v w.heap.size (x++(r.take i).flatMap fun y=>sep++y)) ?_ ?_ ?_
 ·exact⟨(vq1 s1),vr0,vr0,vr0,vr0,hE3,by omega,by simpa using hB3⟩
 ·rintro i σ v hi p ⟨s1,s8,s63,s64,s65,hE,hsv,hB⟩
  have hir:i<r.length:=by omega
  have g:=zaa hE (hgx (i+1) (by omega))
  have hxi:xs[i+1]'(by omega)=r[i]:=by simp only[hxr];rfl
  rw[hxi]at g
  have g':zaf v (adr (some y1) i)=some (vs r[i]):=by rw[←hy1,zcv,Nat.add_comm];exact g
  have hi0:(0:Int)≤(i:Int):=by omega
  have hi1:(i:Int)<((L - 1:Nat):Int):=by omega
  have hi2:(i:Int)+1=((i+1:Nat):Int):=by push_cast;rfl
  have hlr:zar (r.take i)≤zar r:=zdn i
  have hri:r[i].length≤zar r:=by
   have h1:=zee hir
   have h2:=zdn (xs:=r) (i+1)
   omega
  have hfl:=hjl (r.take i)
  have htl:(r.take i).length=i:=by rw[List.length_take];omega
  have hsi:sep.length*i≤M:=by rw[←hM];exact Nat.mul_le_mul_left _ (by omega)
  rw[htl]at hfl
  refine go (an9 s1 s8 s63 s64 s65 p g' hi0 hi1) ?_
  refine rc (an2 s1 s8) (zaC (s:=sep) hB hsv (by simp only[List.length_append];omega)) ?_
  rintro _ v1 ⟨hB1,hk1⟩
  have hsv1:=hk1.size
  refine rgo trivial ?_
  refine rc (an2 s1 s8) (zaC (s:=r[i]) hB1 (by omega) (by simp only[List.length_append];omega)) ?_
  rintro _ v2 ⟨hB2',hk2'⟩
  have hsv2:=hk2'.size
  refine rgo (an5 s1 s8 s63 s64 (an2 s65 hi2)) ?_
  refine⟨rfl,(vq1 s1),(vq1 s8),(vq1 s63),(vq1 s64),(vq1 hi2),Keep.to_ext hE rfl (fun b hb=>by omega) (hk1.trans hk2'),by omega,?_⟩
  rw[zag hir,List.flatMap_append,List.flatMap_singleton]
  simpa [List.append_assoc] using hB2'
 ·rintro σ v p ⟨s1,s8,s63,s64,s65,hE,hsv,hB⟩
  rw[←hrL,List.take_length]at hB
  have hfl:=hjl r
  refine go (an4 s63 s64 s65 p) ?_
  refine rc s8 (zb4 hB (by simp only[List.length_append];omega)) ?_
  rintro _ v1 ⟨rfl,hk1⟩
  refine rgo trivial ?_
  refine rt0 Tryz.ntmps58 ?_
  rw[hxr]
  exact⟨rfl,Keep.to_ext hE rfl (fun b hb=>by omega) hk1⟩
theorem i_str0(k:IntKind)(c:UInt8)(r:Lab):ixSD (some .string) (vs (c::r)) (.int k 0)=some (.int .u8 c.toNat):=(i_str (Int.le_refl _) (by simp)).trans rfl
attribute [go_sem] i_str0
section
variable {P : Program} {d : Option Tmp} {ty : TypeId} {ps : String} {af : Array Edge} {g : Option (Nat × Bool)} {ρ : Operand → Value} {w : World} {K : Value → World → Prop}
end
section
variable {P : Program} {w : World} {K : Value → World → Prop} {t : TypeId} {p v : Value} {A B : Obj}
end
section
variable {P : Program} {d : Option Tmp} {ty : TypeId} {ps : String} {af : Array Edge} {g : Option (Nat × Bool)} {ρ : Operand → Value} {w : World} {K : Value → World → Prop}
end
section
variable {P : Program} {d : Option Tmp} {ty : TypeId} {ps : String} {af : Array Edge} {g : Option (Nat × Bool)} {ρ : Operand → Value} {w : World} {K : Value → World → Prop}
end
theorem isPow16(w:World):Calls Tryz.prog 235 #[vi 16] w (fun e w'=>e= .returned (.bool true)∧w'=w):=by
 go_enter Tryz.func235,Tryz.ntmps235
 go_wp2
 go_ret
 exact⟨rfl,rfl⟩
section
variable {P : Program} {d : Option Tmp} {ty : TypeId} {ps : String} {af : Array Edge} {g : Option (Nat × Bool)} {ρ : Operand → Value} {w : World} {K : Value → World → Prop}
theorem op_slAl{t e:TypeId}{x y:Operand}{n l:Nat}{a:Addr}{inf:TypeInfo}(ht:P.underlying t=some (.array n e))(hn:n≠0)(hi:P.info? e=some inf)(hs:inf.size=1)(hl:l<n)
  (hx:ρ x= .pointer (some a)) (hy:ρ y=vi l) (h:K (.slice (some (a.add l)) (n - l) (n - l)) w):opW P ⟨d,.slice t x (some y) Option.none Option.none,ty,ps,af,g⟩ ρ w K:=by
 refine zan (s:=Instr.sliceAt t (ρ x) (some (ρ y)) Option.none Option.none) (v:= .slice (some (a.add l)) (n - l) (n - l)) (w':=w) ?_ h
 have e1:=za6 (P:=P) (w:=w) (sl:=false) (n:=n) (c:=n) (lo:=some (vi l)) (hi:=Option.none) (mx:=Option.none) (l:=l) (h:=n) (m:=n) rfl rfl rfl (by omega) (Nat.le_refl _) (Nat.le_refl _) (by simp)
 simp[Instr.sliceAt,underlying,program,Sem.run,ht,hx,hy,Instr.sureAddr,e1,sizeOf,typeInfo,hi,hs,hn]
 omega
end
theorem isPow16F(w:World):Fn Tryz.prog 235 #[vi 16] w (fun v w'=>v= .bool true∧w=w'):=
 Fn.of_calls ((isPow16 w).mono fun _ _ ⟨he,hw⟩=>⟨_,he,rfl,hw.symm⟩)
structure WY(w:World):Prop where
 p10:∃t fr,w.heap[1]? =some (.cells (Lib.pow10Tab.map fun z=>Value.int .u64 z).toArray t fr)
 tz:w.cell? ⟨6,15,Option.none⟩=some (.int .u8 4)
theorem WY.ext{w x:World}(h:WY w)(hE:Ext w x):WY x:=by
 obtain⟨t,fr,h2⟩:=h.p10
 exact⟨⟨t,fr,hE.at h2⟩,zcL hE h.tz⟩
instance WY.tr:Tr WY:=⟨fun hE h=>h.ext hE⟩
theorem WY.tab{w:World}(h:WY w){name:String}(hn:Tryz.prog.globalNamed name=some 1):Lib.TabIs Tryz.prog w name .u64 Lib.pow10Tab:=by
 obtain⟨t,fr,h⟩:=h.p10
 unfold Lib.TabIs World.var?
 rw[hn,Option.bind_some,h]
theorem zgq{w:World}(hW:WY w)(n:Int)(h0: -9223372036854775808≤n)(h1:n≤9223372036854775807):Fn Tryz.prog 82 #[vi n] w (fun v w'=>v=vs (Lib.itoa n)∧Ext w w'):=
 Fn.of_calls (Calls.mono (Any.strconv_Itoa Tryz.laysM171 n h0 h1 w (hW.tab (by kernel_rfl))) fun _ _ ⟨he,k,os,hw⟩=>⟨_,he,rfl,hw▸Ext.grow w k os⟩)
section
variable {P : Program} {d : Option Tmp} {ty : TypeId} {ps : String} {af : Array Edge} {g : Option (Nat × Bool)} {ρ : Operand → Value} {w : World} {K : Value → World → Prop}
theorem zhJ{t e:TypeId}{x y:Operand}{n h0:Nat}{a:Addr}{inf:TypeInfo}(ht:P.underlying t=some (.array n e))(hn:n≠0)(hi:P.info? e=some inf)(hs:inf.size=1)(hl:h0≤n)
  (hx:ρ x= .pointer (some a)) (hy:ρ y=vi h0) (h:K (.slice (some a) h0 n) w):opW P ⟨d,.slice t x Option.none (some y) Option.none,ty,ps,af,g⟩ ρ w K:=by
 refine zan (s:=Instr.sliceAt t (ρ x) Option.none (some (ρ y)) Option.none) (v:= .slice (some a) h0 n) (w':=w) ?_ h
 have e1:=za6 (P:=P) (w:=w) (sl:=false) (n:=n) (c:=n) (lo:=Option.none) (hi:=some (vi h0)) (mx:=Option.none) (l:=0) (h:=h0) (m:=n) rfl rfl rfl (by omega) hl (Nat.le_refl _) (by simp)
 simp[Instr.sliceAt,underlying,program,Sem.run,ht,hx,hy,Instr.sureAddr,e1,sizeOf,typeInfo,hi,hs,hn,Addr.add]
end
theorem Small_ok(w:World)(u:Nat)(hu:u<100):Fn Tryz.prog 191 #[vi u] w (fun v w'=>v=vs (Lib.decDigits u)∧w=w'):=
 Fn.of_calls (Calls.mono (Any.internal_strconv_small {Tryz.laysM171 with} u hu w) fun _ _ ⟨he,hw⟩=>⟨_,he,rfl,hw.symm⟩)
theorem ziA{w:World}(hW:WY w)(u:Nat)(h1:1≤u)(h2:u<18446744073709551616):Fn Tryz.prog 192 #[.int .u64 u] w (fun v w'=>v=vi (Lib.nDigits u:Nat)∧w=w'):=
 Fn.of_calls (Calls.mono (Any.internal_strconv_numDigits {Tryz.laysM171 with} u h1 h2 w (hW.tab (by kernel_rfl))) fun _ _ ⟨he,hw⟩=>⟨_,he,rfl,hw.symm⟩)
theorem ziC{w:World}{b:Nat}{T:TypeId}(hA:w.heap[b]? =some (.cells Lib.zeros24 T (0,0)))(u:Nat)(hu1:1≤u)(hu:u<18446744073709551616):
  Fn Tryz.prog 193 #[.slice (some ⟨b,0,Option.none⟩) (Lib.nDigits u) 24,.int .u64 u] w (fun _ w'=>Keep (fun i=>i=b) w w'∧∀j (h:j<(Lib.decDigits u).length),zaf w' (some ⟨b,j,Option.none⟩)=some (zaj (Lib.decDigits u)[j])):=by
 have hnd20:Lib.nDigits u≤20:=by have:=Lib.numDigits_eq u hu1 hu;split at this<;>omega
 have hH:Go.Sort.Holds (fun (b:UInt8)=>Value.int .u8 (b.toNat:Int)) w b 0 (Array.replicate (Lib.nDigits u) (0:UInt8)):=fun j hj=>by
  have hj':j<Lib.nDigits u:=by simpa using hj
  refine⟨?_,Lib.frozen_of_heap hA _⟩
  rw[Nat.zero_add,getElem!_pos _ j hj]
  have:w.cell? ⟨b,j,Option.none⟩=some (.int .u8 0):=zac hA (Lib.zeros24_at j (by omega))
  rw[this]
  simp
 have hfmt:=Any.internal_strconv_formatBase10 {Tryz.laysM171 with} b 0 24 u (Array.replicate (Lib.nDigits u) 0) w hH (by rw[Array.size_replicate];exact Lib.lt_pow_nDigits u) hu (by rw[Array.size_replicate];omega)
 rw[Array.size_replicate]at hfmt
 refine Fn.of_calls (hfmt.mono ?_)
 rintro e w' ⟨rfl,k,v',dk,rfl,hF⟩
 refine⟨_,rfl,?_,fun j hj=>?_⟩
 ·refine Keep.trans (b:=Go.Sort.putRow (fun (b:UInt8)=>Value.int .u8 (b.toNat:Int)) w b 0 dk) ?_ ((Ext.drewN _ k).mono fun _ _ h=>h.elim)
  refine⟨rfl,rfl,rfl,?_,fun i hi hS=>?_,Nat.le_refl _⟩
  ·show _≤(Array.modify _ _ _).size
   simp
  ·show(Array.modify _ _ _)[i]? =_
   rw[Array.getElem?_modify,if_neg (fun h=>hS h.symm)]
 ·rw[Lib.row_is_numeral hF j hj]
  show World.cell? _ _=_
  rw[World.cell?_drewN,←Nat.zero_add j]
  have:=Go.Sort.cell?_putRow (fun (b:UInt8)=>Value.int .u8 (b.toNat:Int)) w b 0 _ dk hH (by rw[hF.size,Array.size_replicate]) j (by rw[hF.size];rw[Lib.decDigits_length]at hj;exact hj)
  rw[this,Nat.zero_add]
  rfl
theorem zeJ{w:World}(hW:WY w)(u:Nat)(hu:u<18446744073709551616):Fn Tryz.prog 122 #[.int .u64 u,vi 10] w (fun v w'=>v=vs (Lib.decDigits u)∧Ext w w'):=by
 refine enter Tryz.func122 Tryz.ntmps122 rfl rfl ?_
 have d1:decide ((10:Int)=10)=true:=rfl
 by_cases h100:u<100
 ·have d2:decide ((u:Int)<100)=true:=decide_eq_true (by omega)
  refine go (an2 d1 d2) ?_
  refine rc trivial (Small_ok w u h100) ?_
  rintro _ _ ⟨rfl,rfl⟩
  refine rgo trivial ?_
  refine rt0 Tryz.ntmps122 ?_
  exact⟨rfl,Keep.refl _ _⟩
 have d2:decide ((u:Int)<100)=false:=decide_eq_false (by omega)
 have hu1:1≤u:=by omega
 have hnd20:Lib.nDigits u≤20:=by have:=Lib.numDigits_eq u hu1 hu;split at this<;>omega
 refine go (an2 d1 d2) ?_
 refine zaI ?_
 intro w1 hE1 hs1 hA
 refine rc trivial (ziA (hW.ext hE1) u hu1 hu) ?_
 rintro _ _ ⟨rfl,rfl⟩
 refine rgo trivial ?_
 repeat refine c_r ?_
 refine rq ?_;intro gd K hgd hK
 try simp only[go_sem]
 refine zhJ (n:=24) (h0:=Lib.nDigits u) (a:=⟨w.heap.size,0,Option.none⟩) rfl (by decide) rfl rfl (by omega) (vr0) (vr0) ?_
 try simp only[go_sem]
 refine Fn.mono (ziC hA u hu1 hu) ?_
 rintro _ w2 ⟨hk2,hat⟩
 try simp only[go_sem]
 refine hK _ _ ?_;clear hK hgd;clear K;try clear gd
 repeat refine c_r ?_
 refine rq ?_;intro gd K hgd hK
 try simp only[go_sem]
 refine zhJ (n:=24) (h0:=Lib.nDigits u) (a:=⟨w.heap.size,0,Option.none⟩) rfl (by decide) rfl rfl (by omega) (vr0) (vr0) ?_
 try simp only[go_sem]
 refine zcc (l:=Lib.decDigits u) (a:=some ⟨w.heap.size,0,Option.none⟩) (c:=24) rfl rfl rfl (by rw[Lib.decDigits_length];first| (simp only[go_sem];done)| (simp only[go_sem];rfl)) (fun j hj=>?_) ?_
 ·rw[zaW];simpa [Addr.add] using hat j hj
 try simp only[go_sem]
 refine hK _ _ ?_;clear hK hgd;clear K;try clear gd
 repeat refine c_r ?_
 refine rt0 Tryz.ntmps122 ?_
 exact⟨rfl,Keep.to_ext hE1 rfl (fun b (hb:b=w.heap.size)=>by omega) hk2⟩
theorem zbA{w:World}(hW:WY w)(u:Nat)(hu:u<18446744073709551616):Fn Tryz.prog 60 #[.int .u64 u,vi 10] w (fun v w'=>v=vs (Lib.decDigits u)∧Ext w w'):=by
 refine enter Tryz.func60 Tryz.ntmps60 rfl rfl ?_
 refine go trivial ?_
 refine rc trivial (zeJ hW u hu) ?_
 rintro _ w1 ⟨rfl,hE1⟩
 refine rgo trivial ?_
 refine rt0 Tryz.ntmps60 ?_
 exact⟨rfl,hE1⟩
end Go.Proofs.YtanmnkbccfcagaaGreatDoor
namespace Go.Proofs
open Go.Shelf
def Tryz.lays137_ren:Go.Shelf.Ren:=⟨fun|137=>132|217=>197|266=>239|n=>n,fun|9=>9|5=>5|3=>3|n=>n,fun|n=>n⟩
theorem Tryz.lays137:Go.Proofs.Lays.n137 Tryz.prog Tryz.lays137_ren:={
 mixed:=by kernel_rfl
 f137:=Tryz.func132.trans (congrArg some (by kernel_rfl))
 f217:=Tryz.func197.trans (congrArg some (by kernel_rfl))
 f266:=Tryz.func239.trans (congrArg some (by kernel_rfl))
 t3:=Tryz.underlying3
 a3:=Tryz.isAgg3
 z3:=Tryz.sizeOf3
 v3:=Tryz.zeroValue3
 t5:=Tryz.underlying5
 a5:=Tryz.isAgg5
 z5:=Tryz.sizeOf5
 v5:=Tryz.zeroValue5
 t9:=Tryz.underlying9
 a9:=Tryz.isAgg9
 z9:=Tryz.sizeOf9
 v9:=Tryz.zeroValue9}
end Go.Proofs
namespace Go.Proofs.YtanmnkbccfcagaaGreatDoor
open Go
set_option maxRecDepth 10000
def escB(c:UInt8):List UInt8:=[92,UInt8.ofNat (48+c.toNat / 100),UInt8.ofNat (48+c.toNat / 10 % 10),UInt8.ofNat (48+c.toNat % 10)]
def marksL:List UInt8:=[46,92,34,40,41,59,64,36]
def labB(c:UInt8):List UInt8:=if c.toNat≤32∨127≤c.toNat then escB c else if marksL.contains c then [92,c] else [c]
def zaZ(l:Lab):List UInt8:=l.flatMap labB
def zbx(n:Nm):List UInt8:=if n=[] then [46] else n.flatMap fun l=>zaZ l++ [46]
theorem zdr{k:Nat}(h:k<256):zaj (UInt8.ofNat k)= .int .u8 (k:Int):=by
 unfold zaj
 rw[UInt8.toNat_ofNat_of_lt' (by simpa [UInt8.size] using h)]
theorem zey(l:List UInt8)(c:UInt8):decide (0≤Lib.indexByte l c)=l.contains c:=by
 induction l with
 |nil=>rfl
 |cons b l ih=>
  unfold Lib.indexByte
  rw[List.contains_cons]
  by_cases h:b==c
  ·rw[if_pos h]
   have h':b=c:=by simpa using h
   subst h'
   simp
  ·rw[if_neg h]
   have:(c==b)=false:=by
    have h':¬b=c:=by simpa using h
    exact beq_eq_false_iff_ne.2 (fun e=>h' e.symm)
   rw[this,Bool.false_or,←ih]
   have hge:=Lib.indexByte_ge l c
   by_cases h2:(Lib.indexByte l c== -1)=true
   ·rw[if_pos h2]
    have h3:Lib.indexByte l c= -1:=by simpa using h2
    rw[h3]
   ·rw[if_neg h2]
    have h3:Lib.indexByte l c≠ -1:=by simpa using h2
    exact decide_eq_decide.2 ⟨fun _=>by omega,fun _=>by omega⟩
theorem labB_len(c:UInt8):(labB c).length≤4:=by
 unfold labB escB
 by_cases h1:c.toNat≤32∨127≤c.toNat
 ·rw[if_pos h1];exact Nat.le_refl _
 ·rw[if_neg h1]
  by_cases h2:marksL.contains c=true
  ·rw[if_pos h2];exact(by decide:2≤4)
  ·rw[if_neg h2];exact(by decide:1≤4)
theorem zbo(l:Lab):(zaZ l).length≤4*l.length:=by
 induction l with
 |nil=>simp[zaZ]
 |cons c l ih=>
  have:=labB_len c
  unfold zaZ at*
  rw[List.flatMap_cons,List.length_append,List.length_cons];omega
theorem zd0(w:World)(c:UInt8):Fn Tryz.prog 131 #[zaj c] w (fun v w'=>v=vs (escB c)∧Ext w w'):=by
 have hc:c.toNat<256:=c.toNat_lt
 obtain⟨n,hn⟩:∃n,c.toNat=n:=⟨_,rfl⟩
 have e0:zaj c= .int .u8 (n:Int):=by unfold zaj;rw[hn]
 rw[e0]
 rw[hn]at hc
 have h100:¬(100:Int)=0:=by decide
 have h10:¬(10:Int)=0:=by decide
 have e1:((n:Nat):Int).tdiv 100=((n / 100:Nat):Int):=by rw[Int.tdiv_eq_ediv_of_nonneg (by omega)];omega
 have e2:((n:Nat):Int).tdiv 10=((n / 10:Nat):Int):=by rw[Int.tdiv_eq_ediv_of_nonneg (by omega)];omega
 have e3:((n / 10:Nat):Int).tmod 10=((n / 10 % 10:Nat):Int):=by rw[Int.tmod_eq_emod_of_nonneg (by omega)];omega
 have e4:((n:Nat):Int).tmod 10=((n % 10:Nat):Int):=by rw[Int.tmod_eq_emod_of_nonneg (by omega)];omega
 have w1:IntKind.u8.wrap ((n / 100:Nat):Int)=((n / 100:Nat):Int):=zgu (by omega) (by omega)
 have w2:IntKind.u8.wrap ((n / 10:Nat):Int)=((n / 10:Nat):Int):=zgu (by omega) (by omega)
 have w3:IntKind.u8.wrap (48+((n / 100:Nat):Int))=((48+n / 100:Nat):Int):=by rw[zgu (by omega) (by omega)];push_cast;rfl
 have w4:IntKind.u8.wrap (48+((n / 10 % 10:Nat):Int))=((48+n / 10 % 10:Nat):Int):=by rw[zgu (by omega) (by omega)];push_cast;rfl
 have w5:IntKind.u8.wrap (48+((n % 10:Nat):Int))=((48+n % 10:Nat):Int):=by rw[zgu (by omega) (by omega)];push_cast;rfl
 have hl:escB c=[92,UInt8.ofNat (48+n / 100),UInt8.ofNat (48+n / 10 % 10),UInt8.ofNat (48+n % 10)]:=by unfold escB;rw[hn]
 refine enter Tryz.func131 Tryz.ntmps131 rfl rfl ?_
 repeat refine c_r ?_
 refine rg0 ?_
 repeat refine c_r ?_
 refine rq ?_;intro gd K hgd hK
 try simp (disch:=assumption) only[go_sem,b_quo,b_rem,e1,e2,e3,e4,w1,w2,↓w3,↓w4,↓w5]
 refine zbf (z:= .int .u8 0) (l:=(escB c).map zaj) (by rw[hl];rfl) ?_ (by rfl) (by rfl) (by rfl) (by rfl) (fun v hv=>?_) (by rw[hl];simp) ?_
 ·rw[hl]
  simp only[List.map_cons,List.map_nil]
  rw[zdr (by omega),zdr (by omega),zdr (by omega)];rfl
 ·obtain⟨d,_,rfl⟩:=List.mem_map.1 hv;rfl
 intro x1 hX1 hXs hXo
 try simp only[go_sem]
 have hlen4:(escB c).length=4:=rfl
 refine zcc (l:=escB c) rfl rfl rfl (vr0) (fun j hj=>?_) ?_
 ·obtain⟨a,c2,e,hc2,hgt⟩:=hXo.row
  injection e with e1
  have h2:=hgt j (by simpa using hj)
  rw[←e1,List.getElem_map]at h2
  exact h2
 try simp only[go_sem]
 refine hK _ _ ?_;clear hK hgd;clear K;try clear gd
 repeat refine c_r ?_
 refine rt0 Tryz.ntmps131 ?_
 exact⟨rfl,hX1⟩
theorem zfq(w:World)(c:UInt8):Fn Tryz.prog 132 #[vs marksL,zaj c] w (fun v w'=>v=vi (Lib.indexByte marksL c)∧w'=w):=
 Fn.of_calls (Calls.mono (Any.strings_IndexByte Tryz.lays137 ⟨marksL.toArray⟩ (c.toNat:Int) w) fun _ _ ⟨he,hw⟩=>⟨_,he,by simp,hw⟩)
theorem Bld.ext'{B:Nat}{w x:World}{b:Nat}{bs:List UInt8}(h:Bld B w b bs)(hE:Ext w x):Bld B x b bs:=by
 obtain⟨p,v,hp,hb,hown⟩:=h.ex
 exact⟨p,v,hp,hE.at hb,hown.ext hE⟩
theorem zgp(w:World)(l:Lab)(hl:l.length≤1000000000):Fn Tryz.prog 70 #[vs l] w (fun v w'=>v=vs (zaZ l)∧Ext w w'):=by
 refine enter Tryz.func70 Tryz.ntmps70 rfl rfl ?_
 repeat refine c_r ?_
 refine rg0 ?_
 repeat refine c_r ?_
 refine rg0 ?_
 refine zaI ?_
 intro w1 hE1 hs1 hA
 repeat refine c_r ?_
 refine rq ?_;intro gd K hgd hK
 try simp only[go_sem]
 refine Fn.mono (ze1 _ _ (by omega)) ?_
 rintro _ w3 ⟨hE3,cap,rfl,hit⟩
 try simp only[go_sem]
 refine hK _ _ ?_;clear hK hgd;clear K;try clear gd
 have hA3:=hE3.at hA
 have s3:=hE3.size
 repeat refine c_r ?_
 refine zeF (g:=185) (cap:=cap) (vq0) rfl (hit (fun b=>b=w.heap.size) (fun b hb=>by omega)) (Keep.refl _ _) (Nat.le_refl _) (fun b hb=>by omega)
  (fun x A args h=>by rw[h];rfl)
  (fun pre A=>Ext w A∧Bld (w3.heap.size+2) A w.heap.size (zaZ (l.take pre.length)))
  (fun _ _ _=>False) ?_ (fun _ _ _ _ h _=>h.elim) ?_ ?_ ?_ (fun _ _ _ _ _ _ _ h _=>h.elim)
 ·rintro pre A B ⟨h1,p,v,hp,hb,hown⟩ hk
  refine⟨Keep.to_ext h1 rfl (fun b hb=>by unfold two at hb;omega) hk,p,v,hp,(hk.block _ (Array.getElem?_eq_some_iff.1 hb).1 (by unfold two;omega)).trans hb,hown.keep hk (fun b hb h=>by have:=(hown.ge hb).1;unfold two at h;omega)⟩
 ·exact⟨hE1.trans hE3,_,_,.inl rfl,hA3,Own.nil _ _ _⟩
 ·rintro lp pre x suf A args hxs hszA ⟨hEA,hB⟩ rfl
  obtain⟨hk,rfl⟩:=zc8 hxs
  dsimp only
  refine rq ?_;intro gd K hgd hK
  try simp only[go_sem]
  refine hK _ _ ?_;clear hK hgd;clear K;try clear gd
  refine zaq ?_
  refine⟨rfl,KeepB.refl _ _ _,fun A2 hA2=>?_⟩
  obtain⟨c,hc⟩:∃c,l[pre.length]=c:=⟨_,rfl⟩
  rw[hc]
  have hK2:Bld (w3.heap.size+2) A2 w.heap.size (zaZ (l.take pre.length)):=by
   obtain⟨p,v,hp,hb,hown⟩:=hB
   exact⟨p,v,hp,(hA2.block _ (Array.getElem?_eq_some_iff.1 hb).1 (by unfold two;omega)).trans hb,hown.keep hA2 (fun b hb h=>by have:=(hown.ge hb).1;unfold two at h;omega)⟩
  have hE2:Ext w A2:=Keep.to_ext hEA rfl (fun b hb=>by unfold two at hb;omega) hA2
  have hsA2:=hA2.size
  have htl:(zaZ (l.take pre.length)).length≤4*l.length:=by
   have h1:=zbo (l.take pre.length)
   rw[List.length_take]at h1;omega
  have htk:zaZ (l.take (pre.length+1))=zaZ (l.take pre.length)++labB c:=by
   rw[zag hk,hc];unfold zaZ;rw[List.flatMap_append];simp
  have fin:∀{z:World} {bs:List UInt8},bs=labB c→Bld (w3.heap.size+2) z w.heap.size (zaZ (l.take pre.length)++bs)→Keep (fun i=>i=w.heap.size∨w3.heap.size+2≤i) A2 z→
    (Ext w z∧Bld (w3.heap.size+2) z w.heap.size (zaZ (l.take (pre++ [(c,pre.length)]).length)))∧KeepB (w3.heap.size+2) (fun b=>b=w.heap.size) A2 z:=fun {z bs} hbs hBz hkz=>by
   refine⟨⟨Keep.to_ext hE2 rfl (fun b hb=>by omega) hkz,?_⟩,hkz.toB (by omega) (fun i hi h=>by omega)⟩
   rw[List.length_append,List.length_singleton,htk,←hbs];exact hBz
  repeat refine c_r ?_
  refine zaA (Q:=fun e σ' ds' v'=>e= .normal∧ds'=[]∧v'=A2∧σ' 5=zaj c∧σ' 3= .pointer (some ⟨w.heap.size,0,Option.none⟩)∧σ' 10= .bool (decide (c.toNat≤32∨127≤c.toNat))) ?_ ?_
  ·refine rq ?_;intro gd K hgd hK
   have hg2:∀n σ b,zap gd n σ (some (2,b))=zah (ev n σ (.tmp 13)) b:=(fun n σ b=>by rw[zab,show gd 2=some 13 from(by rw[hgd];rfl)];rfl)
   by_cases c1:(c.toNat:Int)≤32
   ·try simp (disch:=first|omega|assumption|rfl) only[go_sem,zaj,decide_eq_true c1,↓hg2]
    refine hK _ _ ?_;clear hK hgd;clear K;try clear gd
    refine⟨rfl,rfl,rfl,by simp only[go_sem,zaj],vq0,?_⟩
    rw[show decide (c.toNat≤32∨127≤c.toNat)=true from decide_eq_true (.inl (by omega))]
    simp only[go_sem]
   ·try simp (disch:=first|omega|assumption|rfl) only[go_sem,zaj,decide_eq_false c1,↓hg2]
    refine hK _ _ ?_;clear hK hgd;clear K;try clear gd
    refine⟨rfl,rfl,rfl,by simp only[go_sem,zaj],vq0,?_⟩
    rw[show decide (c.toNat≤32∨127≤c.toNat)=decide ((127:Int)≤(c.toNat:Int)) from decide_eq_decide.2 ⟨fun h=>by omega,fun h=> .inr (by omega)⟩]
    simp only[go_sem]
  rintro _ σ1 _ v1 ⟨rfl,rfl,hv1,h5,h3,h10⟩
  rw[hv1]
  clear hv1 v1
  repeat refine c_r ?_
  refine zaL (t:=decide (c.toNat≤32∨127≤c.toNat)) ((vq1 h10)) ?_ ?_
  ·intro hcc
   simp only[decide_eq_true_eq]at hcc
   have hlb:labB c=escB c:=by unfold labB;rw[if_pos hcc]
   repeat refine c_r ?_
   refine rq ?_;intro gd K hgd hK
   try simp (disch:=first|omega|assumption|rfl) only[go_sem,h5,h3]
   refine Fn.mono (zd0 A2 c) ?_
   rintro _ z1 ⟨rfl,hz1⟩
   try simp (disch:=first|omega|assumption|rfl) only[go_sem,h3]
   have hBz:=hK2.ext' hz1
   refine Fn.mono (zaC hBz (by have:=hz1.size;omega) (by have:(escB c).length=4:=rfl;omega)) ?_
   rintro _ z2 ⟨hBz2,hkz2⟩
   try simp only[go_sem]
   refine hK _ _ ?_;clear hK hgd;clear K;try clear gd
   repeat refine c_r ?_
   exact fin hlb.symm hBz2 ((hz1.mono (fun i _ h=>h.elim)).trans hkz2)
  ·intro hcc
   simp only[decide_eq_false_iff_not]at hcc
   repeat refine c_r ?_
   refine rq ?_;intro gd K hgd hK
   try simp (disch:=first|omega|assumption|rfl) only[go_sem,h5]
   refine Fn.mono (zfq A2 c) ?_
   rintro _ y0 ⟨rfl,hy0⟩
   try simp only[go_sem]
   rw[hy0]
   clear hy0 y0
   refine hK _ _ ?_;clear hK hgd;clear K;try clear gd
   have hhas:=zey marksL c
   have tail:∀{z:World} {σ':Sto} {bs:List UInt8},bs++ [c]=labB c→Bld (w3.heap.size+2) z w.heap.size (zaZ (l.take pre.length)++bs)→Keep (fun i=>i=w.heap.size∨w3.heap.size+2≤i) A2 z→σ' 5=zaj c→σ' 3= .pointer (some ⟨w.heap.size,0,Option.none⟩)→bs.length≤4→
     Fn Tryz.prog 80 #[.pointer (some ⟨w.heap.size,0,Option.none⟩),zaj c] z (fun _ z'=>(Ext w z'∧Bld (w3.heap.size+2) z' w.heap.size (zaZ (l.take (pre++ [(c,pre.length)]).length)))∧KeepB (w3.heap.size+2) (fun b=>b=w.heap.size) A2 z'):=fun {z σ' bs} hbs hBz hkz _ _ hb4=>by
    refine Fn.mono (zaV hBz (by have:=hkz.size;omega) (by simp;omega)) ?_
    rintro _ z' ⟨h1,h2⟩
    exact fin hbs (by rw[←List.append_assoc];exact h1) (hkz.trans h2)
   repeat refine c_r ?_
   refine zaL (t:=marksL.contains c) (by rw[←hhas];simp only[go_sem]) ?_ ?_
   ·intro hm
    have hlb:labB c=[92,c]:=by unfold labB;rw[if_neg hcc,if_pos hm]
    repeat refine c_r ?_
    refine rq ?_;intro gd K hgd hK
    try simp (disch:=first|omega|assumption|rfl) only[go_sem,h3]
    refine Fn.mono (zaV (c:=92) hK2 (by omega) (by omega)) ?_
    rintro _ z1 ⟨hBz1,hkz1⟩
    try simp only[go_sem]
    refine hK _ _ ?_;clear hK hgd;clear K;try clear gd
    repeat refine c_r ?_
    refine rq ?_;intro gd K hgd hK
    try simp (disch:=first|omega|assumption|rfl) only[go_sem,h3,h5]
    refine Fn.mono (tail (σ':=σ1) (bs:=[92]) hlb.symm hBz1 hkz1 h5 h3 (by decide)) ?_
    rintro _ z2 hz2
    try simp only[go_sem]
    refine hK _ _ ?_;clear hK hgd;clear K;try clear gd
    repeat refine c_r ?_
    exact hz2
   ·intro hm
    have hlb:labB c=[c]:=by unfold labB;rw[if_neg hcc,if_neg (by rw[hm];exact Bool.false_ne_true)]
    repeat refine c_r ?_
    refine rq ?_;intro gd K hgd hK
    try simp (disch:=first|omega|assumption|rfl) only[go_sem,h3,h5]
    refine Fn.mono (tail (σ':=σ1) (bs:=[]) hlb.symm (by simpa using hK2) (Keep.refl _ _) h5 h3 (by decide)) ?_
    rintro _ z2 hz2
    try simp only[go_sem]
    refine hK _ _ ?_;clear hK hgd;clear K;try clear gd
    repeat refine c_r ?_
    exact hz2
 ·intro A hszA ⟨hEA,hB⟩ hD
  rw[List.take_of_length_le (by simp)]at hB
  have hlt:=zbo l
  repeat refine c_r ?_
  refine rq ?_;intro gd K hgd hK
  try simp only[go_sem]
  refine Fn.mono (zb4 hB (by omega)) ?_
  rintro _ z ⟨rfl,hkz⟩
  try simp only[go_sem]
  refine hK _ _ ?_;clear hK hgd;clear K;try clear gd
  repeat refine c_r ?_
  refine zep (v:=vs (zaZ l)) (.inr rfl) (by rfl) Tryz.ntmps70 (vq0) ((hkz.block _ (by omega) (by omega)).trans hD) ?_
  intro Z hkZ hsZ
  exact⟨rfl,Keep.to_ext (Keep.to_ext hEA rfl (fun b hb=>by omega) hkz) rfl (fun b hb=>by omega) hkZ⟩
def quoB(c:UInt8):Lab:=if c.toNat<32∨126<c.toNat then escB c else if c=34∨c=92 then [92,c] else [c]
def quoL(l:Lab):Lab:=l.flatMap quoB
def quoT(l:Lab):Lab:=34::(quoL l++ [34])
theorem quoB_len(c:UInt8):(quoB c).length≤4:=by
 unfold quoB escB
 split
 ·exact Nat.le_refl _
 ·split
  ·exact(by decide:2≤4)
  ·exact(by decide:1≤4)
theorem zeu(l:Lab):(quoL l).length≤4*l.length:=by
 induction l with
 |nil=>simp[quoL]
 |cons c l ih=>
  have:=quoB_len c
  unfold quoL at*
  rw[List.flatMap_cons,List.length_append,List.length_cons];omega
theorem quote_ok(w:World)(l:Lab)(hl:l.length≤1000000000):Fn Tryz.prog 149 #[vs l] w (fun v w'=>v=vs (quoT l)∧Ext w w'):=by
 refine enter Tryz.func149 Tryz.ntmps149 rfl rfl ?_
 refine go trivial ?_
 refine zaI ?_
 intro w1 hE1 hs1 hA
 repeat refine c_r ?_
 refine rq ?_;intro gd K hgd hK
 try simp only[go_sem]
 refine zeA rfl rfl rfl (vr0) ?_
 intro c cur w2 hlc hcs hct hE2 hs2 hb2
 try simp only[go_sem]
 refine hK _ _ ?_;clear hK hgd;clear K;try clear gd
 have hgx:∀i (h:i<l.length),zaf w2 (some ⟨w1.heap.size,i,Option.none⟩)=some (zaj l[i]):=fun i hi=>by
  refine zac hb2 ?_
  have:(cur.toList.take l.length)[i]? =some (zaj l[i]):=by rw[hct,List.getElem?_map,List.getElem?_eq_getElem hi];rfl
  rw[List.getElem?_take,if_pos hi]at this
  simpa using this
 have hE12:=hE1.trans hE2
 have hB0:Bld (w.heap.size+1) w2 w.heap.size []:=⟨_,_,.inl rfl,hE2.at hA,Own.nil _ _ _⟩
 refine go trivial ?_
 refine zc6 l.length (fun i σ v=>σ 3= .pointer (some ⟨w.heap.size,0,Option.none⟩)∧σ 7= .slice (some ⟨w1.heap.size,0,Option.none⟩) l.length c∧σ 8=vi l.length∧σ 9=vi i∧Ext w v∧(∀i (h:i<l.length),zaf v (some ⟨w1.heap.size,i,Option.none⟩)=some (zaj l[i]))∧Bld (w2.heap.size) v w.heap.size (quoL (l.take i))∧w2.heap.size≤v.heap.size) ?_ ?_ ?_
 ·exact⟨vr0,vr0,vr0,vr0,hE12,hgx,⟨⟨_,_,.inl rfl,hE2.at hA,Own.nil _ _ _⟩⟩,Nat.le_refl _⟩
 ·rintro i σ v hi p ⟨s3,s7,s8,s9,hE,hat,hB,hsv⟩
  have g:=hat i hi
  obtain⟨d,hd⟩:∃d,l[i]=d:=⟨_,rfl⟩
  rw[hd]at g
  replace g:zaf v (some ⟨w1.heap.size,i,Option.none⟩)=some (.int .u8 (d.toNat:Int)):=g
  have hi0:(0:Int)≤(i:Int):=by omega
  have hi1:(i:Int)<(l.length:Int):=by omega
  have hi2:(i:Int)+1=((i+1:Nat):Int):=by push_cast;rfl
  have htl:(quoL (l.take i)).length≤4*l.length:=by
   have h1:=zeu (l.take i)
   rw[List.length_take]at h1;omega
  have htk:quoL (l.take (i+1))=quoL (l.take i)++quoB d:=by
   rw[zag hi,hd];unfold quoL;rw[List.flatMap_append,List.flatMap_singleton]
  -- one more
  have fin:∀{z:World} {bs:List UInt8},bs=quoB d→Bld w2.heap.size z w.heap.size (quoL (l.take i)++bs)→Keep (fun i=>i=w.heap.size∨w2.heap.size≤i) v z→
    Ext w z∧(∀i (h:i<l.length),zaf z (some ⟨w1.heap.size,i,Option.none⟩)=some (zaj l[i]))∧Bld (w2.heap.size) z w.heap.size (quoL (l.take (i+1)))∧w2.heap.size≤z.heap.size:=fun {z bs} hbs hBz hkz=>
   ⟨Keep.to_ext hE rfl (fun b hb=>by omega) hkz,fun j hj=>by
    have h1:=hkz.block w1.heap.size (by omega) (by omega)
    have h2:=hat j hj
    show z.cell? _=_
    rw[zbL (a:=⟨w1.heap.size,j,Option.none⟩) h1]
    exact h2,by rw[htk,←hbs];exact hBz,by have:=hkz.size;omega⟩
  refine go (an8 s3 s7 s8 s9 p g Nat.zero_add (an2 hi0 hi1)) ?_
  by_cases c1:(d.toNat:Int)<32
  ·refine rgg [(2,16)] (decide_eq_true c1) ?_
   have hq:quoB d=escB d:=by unfold quoB;rw[if_pos (.inl (by omega))]
   refine go trivial ?_
   refine rc trivial (zd0 v d) ?_
   rintro _ v1 ⟨rfl,hEv1⟩
   refine rd s3 (zaC (s:=escB d) (hB.ext' hEv1) (by have:=hEv1.size;omega) (by have:(escB d).length=4:=rfl;omega)) ?_
   rintro _ v2 ⟨hB2,hk2⟩
   refine rgo (an5 s3 s7 s8 s9 hi2) ?_
   obtain⟨f1,f2,f3,f4⟩:=fin hq.symm hB2 ((hEv1.mono fun _ _ h=>h.elim).trans hk2)
   exact⟨rfl,(vq1 s3),(vq1 s7),(vq1 s8),(vq1 hi2),f1,f2,f3,f4⟩
  by_cases c2:(126:Int)<(d.toNat:Int)
  ·refine rgg [(2,16)] (an2 (decide_eq_false c1) (decide_eq_true c2)) ?_
   have hq:quoB d=escB d:=by unfold quoB;rw[if_pos (.inr (by omega))]
   refine go trivial ?_
   refine rc trivial (zd0 v d) ?_
   rintro _ v1 ⟨rfl,hEv1⟩
   refine rd s3 (zaC (s:=escB d) (hB.ext' hEv1) (by have:=hEv1.size;omega) (by have:(escB d).length=4:=rfl;omega)) ?_
   rintro _ v2 ⟨hB2,hk2⟩
   refine rgo (an5 s3 s7 s8 s9 hi2) ?_
   obtain⟨f1,f2,f3,f4⟩:=fin hq.symm hB2 ((hEv1.mono fun _ _ h=>h.elim).trans hk2)
   exact⟨rfl,(vq1 s3),(vq1 s7),(vq1 s8),(vq1 hi2),f1,f2,f3,f4⟩
  refine rgg [(2,16)] (an2 (decide_eq_false c1) (decide_eq_false c2)) ?_
  refine go trivial ?_
  by_cases c3:d=34
  ·have hq:quoB d=[92,d]:=by subst c3;rfl
   refine rgg [(2,23)] (show decide ((d.toNat:Int)=34)=true by subst c3;rfl) ?_
   refine go trivial ?_
   refine rc s3 (zaV (c:=92) hB hsv (by omega)) ?_
   rintro _ v1 ⟨hB1,hk1⟩
   refine rgo trivial ?_
   refine rc s3 (zaV (c:=d) hB1 (by have:=hk1.size;omega) (by simp;omega)) ?_
   rintro _ v2 ⟨hB2,hk2⟩
   refine rgo (an5 s3 s7 s8 s9 hi2) ?_
   rw[List.append_assoc]at hB2
   obtain⟨f1,f2,f3,f4⟩:=fin hq.symm hB2 (hk1.trans hk2)
   exact⟨rfl,(vq1 s3),(vq1 s7),(vq1 s8),(vq1 hi2),f1,f2,f3,f4⟩
  have d3:decide ((d.toNat:Int)=34)=false:=decide_eq_false fun h=>c3 (UInt8.toNat_inj.1 (by have:(34:UInt8).toNat=34:=rfl;omega))
  by_cases c4:d=92
  ·have hq:quoB d=[92,d]:=by subst c4;rfl
   refine rgg [(2,23)] (an2 d3 (show decide ((d.toNat:Int)=92)=true by subst c4;rfl)) ?_
   refine go trivial ?_
   refine rc s3 (zaV (c:=92) hB hsv (by omega)) ?_
   rintro _ v1 ⟨hB1,hk1⟩
   refine rgo trivial ?_
   refine rc s3 (zaV (c:=d) hB1 (by have:=hk1.size;omega) (by simp;omega)) ?_
   rintro _ v2 ⟨hB2,hk2⟩
   refine rgo (an5 s3 s7 s8 s9 hi2) ?_
   rw[List.append_assoc]at hB2
   obtain⟨f1,f2,f3,f4⟩:=fin hq.symm hB2 (hk1.trans hk2)
   exact⟨rfl,(vq1 s3),(vq1 s7),(vq1 s8),(vq1 hi2),f1,f2,f3,f4⟩
  have d4:decide ((d.toNat:Int)=92)=false:=decide_eq_false fun h=>c4 (UInt8.toNat_inj.1 (by have:(92:UInt8).toNat=92:=rfl;omega))
  have hq:quoB d=[d]:=by unfold quoB;rw[if_neg (by omega),if_neg (by simp[c3,c4])]
  refine rgg [(2,23)] (an2 d3 d4) ?_
  refine go trivial ?_
  refine rc s3 (zaV (c:=d) hB hsv (by omega)) ?_
  rintro _ v2 ⟨hB2,hk2⟩
  refine rgo (an5 s3 s7 s8 s9 hi2) ?_
  obtain⟨f1,f2,f3,f4⟩:=fin hq.symm hB2 hk2
  exact⟨rfl,(vq1 s3),(vq1 s7),(vq1 s8),(vq1 hi2),f1,f2,f3,f4⟩
 ·rintro σ v p ⟨s3,s7,s8,s9,hE,hat,hB,hsv⟩
  rw[List.take_length]at hB
  have hql:=zeu l
  refine go (an4 s7 s8 s9 p) ?_
  refine rc s3 (zb4 hB (by omega)) ?_
  rintro _ v1 ⟨rfl,hk1⟩
  have l1:([34]:Lab).length+(quoL l).length≤9223372036854775807:=by simp;omega
  have l2:(34::quoL l:Lab).length+([34]:Lab).length≤9223372036854775807:=by simp;omega
  refine rgo (an2 l1 l2) ?_
  refine rt0 Tryz.ntmps149 ?_
  exact⟨rfl,Keep.to_ext hE rfl (fun b hb=>by omega) hk1⟩
def zaF(k:Nat)(l:List UInt8):List (List UInt8):=(List.range ((l.length+(k - 1)) / k)).map fun i=>(l.drop (i*k)).take k
def encCh(w0:World)(x:List UInt8)(_:World)(args:Array Value):Prop:=∃v,args=#[v]∧Row w0 v (x.map zaj)
theorem zc3(k:Nat)(l:List UInt8):(zaF k l).length=(l.length+(k - 1)) / k:=by unfold zaF;simp
theorem zgX{k:Nat}{l:List UInt8}{i:Nat}(h:i<(zaF k l).length):(zaF k l)[i]=(l.drop (i*k)).take k:=by
 simp[zaF]
theorem zii{k:Nat}(hk:1≤k){l:List UInt8}{i:Nat}:i<(zaF k l).length↔i*k<l.length:=by
 rw[zc3]
 constructor
 ·intro h
  have h1:(i+1)*k≤l.length+(k - 1):=(Nat.le_div_iff_mul_le (by omega)).1 h
  rw[Nat.add_mul]at h1
  omega
 ·intro h
  have:(i+1)≤(l.length+(k - 1)) / k:=(Nat.le_div_iff_mul_le (by omega)).2 (by rw[Nat.add_mul];omega)
  omega
theorem s_sl3{P:Program}{e:TypeId}{ad:Option Addr}{n c:Nat}{k k' k2:IntKind}{l m x:Int}(h1:0≤l)(h3:l≤m)(h4:m≤x)(h5:x≤(c:Int)):
  slD P (some (.slice e)) (.slice ad n c) (some (.int k l)) (some (.int k' m)) (some (.int k2 x))=
   (bif (P.info? e).isSome then some (.slice (if x.toNat=l.toNat then ad else adr ad (l.toNat*tyS P e)) (m.toNat - l.toNat) (x.toNat - l.toNat)) else Option.none):=by
 have g1:slB (some (Value.int k l))=some l.toNat:=by simp[slB,h1]
 have g2:slH (some (Value.int k' m)) n=some m.toNat:=by simp[slH,show 0≤m by omega]
 have g3:slH (some (Value.int k2 x)) c=some x.toNat:=by simp[slH,show 0≤x by omega]
 unfold slD
 simp only[g1,g2,g3]
 rw[if_pos (by refine⟨by omega,by omega,by omega,fun _=>rfl⟩)]
theorem zij{w0 W0:World}{n0:Nat}{C:Nat→Prop}{b1 b2 k:Nat}{T1 T2:TypeId}{fr1 fr2:Nat×Nat}{v:Value}{l:List UInt8}(hE0:Ext w0 W0)(hrow:Row w0 v (l.map zaj))(h1:W0.heap[b1]? =some (.cells #[v] T1 fr1))(h2:W0.heap[b2]? =some (.cells #[vi k] T2 fr2))
  (hb1:b1<n0) (hb2:b2<n0) (hc1:¬C b1) (hc2:¬C b2) (hC:∀b,C b→w0.heap.size≤b) (hn0:w0.heap.size≤n0) (hk:1≤k) (hk1:k≤1000) (hl:l.length≤1000000):
  Iter Tryz.prog 263 #[.pointer (some ⟨b1,0,Option.none⟩),.pointer (some ⟨b2,0,Option.none⟩)] W0 n0 C (zaF k l) (encCh w0):=by
 intro lp J Jx W hW hnW hJ hJx hY h0
 obtain⟨a,c,rfl,hc,hg⟩:=hrow
 rw[List.length_map]at hc h1
 have cell1:∀{v:World},KeepB n0 C W v→zaf v (some ⟨b1,0,Option.none⟩)=some (.slice a l.length c):=fun hk=>zce hk hb1 hc1 (zac (hW.at h1) rfl)
 have cell2:∀{v:World},KeepB n0 C W v→zaf v (some ⟨b2,0,Option.none⟩)=some (vi k):=fun hk=>zce hk hb2 hc2 (zac (hW.at h2) rfl)
 obtain⟨L,hL⟩:∃L,l.length=L:=⟨_,rfl⟩
 rw[hL]at cell1 hc hl
 refine enter Tryz.func263 Tryz.ntmps263 rfl rfl ?_
 refine go trivial ?_
 refine zas (fun m σ ds v=>ds=[]∧∃i,i+m=(zaF k l).length∧σ 4=vi (i*k:Nat)∧σ 0= .func (.yield lp) #[] #[]∧σ 1= .pointer (some ⟨b1,0,Option.none⟩)∧σ 2= .pointer (some ⟨b2,0,Option.none⟩)∧J ((zaF k l).take i) v∧KeepB n0 C W v) (zaF k l).length ?_ ?_
 ·exact⟨rfl,0,by omega,by simp only[Nat.zero_mul];first| (simp only[go_sem];done)| (simp only[go_sem];rfl),vr0,vr0,vr0,by simpa using h0,KeepB.refl _ _ _⟩
 rintro m σ ds v ⟨rfl,i,him,h4,f0,f1,f2,hj,hK0⟩
 have p1:=cell1 hK0
 have p2:=cell2 hK0
 have hlt:=zii hk (l:=l) (i:=i)
 rw[hL]at hlt
 by_cases hi:i<(zaF k l).length
 ·have hik:=hlt.1 hi
  have d1:decide (((i*k:Nat):Int)<(L:Int))=true:=decide_eq_true (by omega)
  refine go (an6 h4 f0 f1 f2 p1 d1) ?_
  obtain⟨e,he⟩:∃e,min k (L - i*k)=e:=⟨_,rfl⟩
  have hikm:i*k≤1000000:=by omega
  have z:(0:Int)≤((i*k:Nat):Int):=by omega
  have zl:((i*k:Nat):Int)≤(L:Int):=by omega
  have em:min (k:Int) ((L - i*k:Nat):Int)=(e:Int):=by omega
  have hsum:((i*k:Nat):Int)+(e:Int)=((i*k+e:Nat):Int):=by omega
  have hsl:slD Tryz.prog (some (.slice 5)) (.slice a L c) (some (vi (i*k:Nat))) (some (vi (i*k+e:Nat))) (some (vi (i*k+e:Nat)))=some (.slice (adr a (i*k)) e e):=by
   rw[s_sl3 z (by omega) (Int.le_refl _) (by omega)]
   simp only[Int.toNat_natCast,Nat.add_sub_cancel_left]
   rw[if_neg (by omega),show tyS Tryz.prog 5=1 from rfl,Nat.mul_one]
   rfl
  refine zaK (fun _=>false) [(0,true),(1,true),(2,true),(3,true),(4,true),(5,false),(6,true)] NoS mixed (by kernel_rfl) ?_;intro gd K x hgd hx hxe hK;have hx0:=zbc hxe;clear hxe
  have q1:=zaa hx0 p1
  have q2:=zaa hx0 p2
  simp (disch:=first|omega|assumption|rfl) only[go_sem,f1,f2,q1,q2,h4,z,zl]
  refine zhL (vr0) (vr0) ?_
  rw[em]
  refine⟨.inr (Keep.refl _ _),?_⟩
  simp (disch:=first|omega|assumption|rfl) only[go_sem]
  refine hK _ _ ?_;clear hK hgd;clear K;try clear gd
  have hKx:KeepB n0 C W x:=hK0.trans (hx0.toB (by have:=hK0.size;omega) (fun _ _ h=>h.elim))
  repeat refine c_r ?_
  refine rq ?_;intro gd K hgd hK
  try simp (disch:=first|omega|assumption|rfl) only[go_sem,f0,f1,q1,h4,hsum,hsl]
  have hcg:=zgX hi
  have hel:((l.drop (i*k)).take k).length=e:=by rw[List.length_take,List.length_drop,hL];exact he
  refine Yld.mono (hY ((zaF k l).take i) (zaF k l)[i] ((zaF k l).drop (i+1)) x _ (za5 hi) (hJ _ _ _ hj hx0) hKx ⟨_,rfl,adr a (i*k),e,by rw[hcg,List.length_map,hel],by rw[hcg,List.length_map,hel];exact Nat.le_refl _,fun j hjj=>?_⟩) ?_
  ·rw[hcg,List.length_map,hel]at hjj
   have:=hg (i*k+j) (by rw[List.length_map];omega)
   rw[List.getElem_map]at this
   rw[zcv]
   simp only[hcg,List.getElem_map,List.getElem_take,List.getElem_drop]
   exact this
  rintro u y (⟨rfl,hj',hk'⟩| ⟨rfl,hjx⟩)
  ·try simp only[go_sem]
   refine hK _ _ ?_;clear hK hgd;clear K;try clear gd
   have hK1:=hKx.trans hk'
   have q3:=cell2 hK1
   have hnx:((i*k:Nat):Int)+(k:Int)=(((i+1)*k:Nat):Int):=by rw[Nat.add_mul,Nat.one_mul];omega
   refine go (an5 f0 f1 f2 h4 (an2 q3 hnx)) ?_
   refine⟨m - 1,by omega,rfl,i+1,by omega,(vq1 hnx),(vq1 f0),(vq1 f1),(vq1 f2),?_,hK1⟩
   rw[zag hi];exact hj'
  ·try simp only[go_sem]
   refine hK _ _ ?_;clear hK hgd;clear K;try clear gd
   refine go trivial ?_
   exact zaw (by simp) rfl (.inr ⟨_,_,_,za5 hi,hjx⟩)
 ·have hik:¬i*k<L:=fun h=>hi (hlt.2 h)
  have d1:decide (((i*k:Nat):Int)<(L:Int))=false:=decide_eq_false (by omega)
  refine go (an6 h4 f0 f1 f2 p1 d1) ?_
  refine zaw (by simp) rfl (.inl ?_)
  rw[List.take_of_length_le (by omega)]at hj
  exact hj
theorem Chunk_ok{w0 w:World}(hE0:Ext w0 w){v:Value}{l:List UInt8}(hrow:Row w0 v (l.map zaj)){k:Nat}(hk:1≤k)(hk1:k≤1000)(hl:l.length≤1000000):
  Fn Tryz.prog 215 #[v,vi k] w (fun u w'=>Ext w w'∧∃cap,u= .func (.func 263) #[] cap∧
   ∀C:Nat→Prop,(∀b,C b→w0.heap.size≤b∧b<w.heap.size)→Iter Tryz.prog 263 cap w' w'.heap.size C (zaF k l) (encCh w0)):=by
 have hs0:=hE0.size
 obtain⟨a,c,hv,hc,hg⟩:=id hrow
 have d0:decide ((k:Int)<1)=false:=decide_eq_false (by omega)
 refine enter Tryz.func215 Tryz.ntmps215 rfl rfl ?_
 repeat refine c_r ?_
 refine rg0 ?_
 repeat refine c_r ?_
 rw[zat,hv]
 refine zdt ?_
 intro w2 hE2 hs2 hA1 hA2
 have q2:zaf w2 (some ⟨w.heap.size+1,0,Option.none⟩)=some (vi k):=zac hA2 rfl
 refine go (an2 q2 d0) ?_
 refine rt0 Tryz.ntmps215 ?_
 exact⟨hE2,_,rfl,fun C hC=>zij (hE0.trans hE2) (hv▸hrow) hA1 hA2 (by omega) (by omega) (fun h=>by have:=hC _ h;omega) (fun h=>by have:=hC _ h;omega) (fun b h=>(hC b h).1) (by omega) hk hk1 hl⟩
end Go.Proofs.YtanmnkbccfcagaaGreatDoor
