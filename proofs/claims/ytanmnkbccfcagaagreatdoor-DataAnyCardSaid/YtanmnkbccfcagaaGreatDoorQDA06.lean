/-
  Texts of a proof, joined: JM, JN, JO, JP, JQ, HQ, HR, HS, HT, HU, HW, HV, KR, KR5, KR6, E6, E7, E8, B3, K24, E9, E10, F2, Y4, F3, F4, Y5, F5, E11, E12, E13, F6, F7, F8, F9, G0, G1, G2, G3, G4, G5, HX, K26, JR, JS, K29, K37, JT.
  Conditions: none.
-/
import Derived.Test.YtanmnkbccfcagaaGreatDoorQDA05
import Derived.Test.YtanmnkbccfcagaaGreatDoorQDA03
import Derived.Test.YtanmnkbccfcagaaGreatDoorQDA02
import Derived.Test.YtanmnkbccfcagaaGreatDoorQDA04
import Derived.MapFrom
import Derived.Test.YtanmnkbccfcagaaGreatDoorQDA01
set_option linter.unusedVariables false
set_option linter.unusedSimpArgs false
set_option linter.defProp false
set_option linter.unnecessarySimpa false
set_option maxHeartbeats 8000000
namespace Go.Proofs.YtanmnkbccfcagaaGreatDoor
open Go
set_option maxRecDepth 10000
def zas(t:Int):Int×Int×Int×Int:=if t=1 then(0,0,0,4) else if t=28 then(0,0,0,16) else if t=15 then(1,1,0,0) else if t=6 then(2,5,0,0) else if t=16 then(0,0, -1,0) else if t=2∨t=5∨t=12∨t=39 then(1,0,0,0) else(0,0,0, -1)
def ze4(x:Int×Int×Int×Int):Value:= .agg #[vi x.1,vi x.2.1,vi x.2.2.1,vi x.2.2.2]
theorem zcS(a b c d:Int):∀v∈ [vi a,vi b,vi c,vi d],one v=true:=fun v h=>by
 simp at h
 rcases h with rfl|rfl|rfl|rfl<;>rfl
theorem of_ok(w:World)(t:Int):Fn Tryz.prog 146 #[vi t] w (fun v w'=>v=ze4 (zas t)∧Ext w w'):=by
 refine enter Tryz.func146 Tryz.ntmps146 rfl rfl ?_
 refine go trivial ?_
 refine zan ?_
 intro w1 hE1 hs1 hA
 unfold zas
 by_cases h0:t=1
 ·have d0:decide (t=1)=true:=decide_eq_true h0
  rw[if_pos h0]
  refine go d0 ?_
  refine rq ?_;intro gd K hgd hK
  try simp only[go_sem]
  refine⟨by kernel_rfl,?_⟩
  rw[show bdV Tryz.prog 218 [(3,vi 4)]=some (.agg #[vi 0,vi 0,vi 0,vi 4]) from by kernel_rfl]
  try simp only[go_sem]
  refine zaW (P:=Tryz.prog) (t:=218) (l:=[vi 0,vi 0,vi 0,vi 4]) hA rfl (zcS _ _ _ _) rfl rfl ?_
  intro w2 hs2 hB2 hk2
  try simp only[go_sem]
  refine hK _ _ ?_;clear hK hgd;clear K;try clear gd
  refine go trivial ?_
  refine zag (.inr rfl) Tryz.ntmps146 rfl (zaL (x:=⟨w.heap.size,0,Option.none⟩) (k:=4) (vr0) rfl rfl (zam hB2 rfl) zae) ?_
  exact⟨rfl,Keep.to_ext hE1 rfl (fun b hb=>by omega) hk2⟩
 have d0:decide (t=1)=false:=decide_eq_false h0
 rw[if_neg h0]
 by_cases h1:t=28
 ·have d1:decide (t=28)=true:=decide_eq_true h1
  rw[if_pos h1]
  refine go (an2 d0 d1) ?_
  refine rq ?_;intro gd K hgd hK
  try simp only[go_sem]
  refine⟨by kernel_rfl,?_⟩
  rw[show bdV Tryz.prog 218 [(3,vi 16)]=some (.agg #[vi 0,vi 0,vi 0,vi 16]) from by kernel_rfl]
  try simp only[go_sem]
  refine zaW (P:=Tryz.prog) (t:=218) (l:=[vi 0,vi 0,vi 0,vi 16]) hA rfl (zcS _ _ _ _) rfl rfl ?_
  intro w2 hs2 hB2 hk2
  try simp only[go_sem]
  refine hK _ _ ?_;clear hK hgd;clear K;try clear gd
  refine go trivial ?_
  refine zag (.inr rfl) Tryz.ntmps146 rfl (zaL (x:=⟨w.heap.size,0,Option.none⟩) (k:=4) (vr0) rfl rfl (zam hB2 rfl) zae) ?_
  exact⟨rfl,Keep.to_ext hE1 rfl (fun b hb=>by omega) hk2⟩
 have d1:decide (t=28)=false:=decide_eq_false h1
 rw[if_neg h1]
 by_cases h2:t=15
 ·have d2:decide (t=15)=true:=decide_eq_true h2
  rw[if_pos h2]
  refine go (an3 d0 d1 d2) ?_
  refine rq ?_;intro gd K hgd hK
  try simp only[go_sem]
  refine⟨by kernel_rfl,?_⟩
  rw[show bdV Tryz.prog 218 [(0,vi 1),(1,vi 1)]=some (.agg #[vi 1,vi 1,vi 0,vi 0]) from by kernel_rfl]
  try simp only[go_sem]
  refine zaW (P:=Tryz.prog) (t:=218) (l:=[vi 1,vi 1,vi 0,vi 0]) hA rfl (zcS _ _ _ _) rfl rfl ?_
  intro w2 hs2 hB2 hk2
  try simp only[go_sem]
  refine hK _ _ ?_;clear hK hgd;clear K;try clear gd
  refine go trivial ?_
  refine zag (.inr rfl) Tryz.ntmps146 rfl (zaL (x:=⟨w.heap.size,0,Option.none⟩) (k:=4) (vr0) rfl rfl (zam hB2 rfl) zae) ?_
  exact⟨rfl,Keep.to_ext hE1 rfl (fun b hb=>by omega) hk2⟩
 have d2:decide (t=15)=false:=decide_eq_false h2
 rw[if_neg h2]
 by_cases h3:t=6
 ·have d3:decide (t=6)=true:=decide_eq_true h3
  rw[if_pos h3]
  refine go (an4 d0 d1 d2 d3) ?_
  refine rq ?_;intro gd K hgd hK
  try simp only[go_sem]
  refine⟨by kernel_rfl,?_⟩
  rw[show bdV Tryz.prog 218 [(0,vi 2),(1,vi 5)]=some (.agg #[vi 2,vi 5,vi 0,vi 0]) from by kernel_rfl]
  try simp only[go_sem]
  refine zaW (P:=Tryz.prog) (t:=218) (l:=[vi 2,vi 5,vi 0,vi 0]) hA rfl (zcS _ _ _ _) rfl rfl ?_
  intro w2 hs2 hB2 hk2
  try simp only[go_sem]
  refine hK _ _ ?_;clear hK hgd;clear K;try clear gd
  refine go trivial ?_
  refine zag (.inr rfl) Tryz.ntmps146 rfl (zaL (x:=⟨w.heap.size,0,Option.none⟩) (k:=4) (vr0) rfl rfl (zam hB2 rfl) zae) ?_
  exact⟨rfl,Keep.to_ext hE1 rfl (fun b hb=>by omega) hk2⟩
 have d3:decide (t=6)=false:=decide_eq_false h3
 rw[if_neg h3]
 by_cases h4:t=16
 ·have d4:decide (t=16)=true:=decide_eq_true h4
  rw[if_pos h4]
  refine go (an5 d0 d1 d2 d3 d4) ?_
  refine rq ?_;intro gd K hgd hK
  try simp only[go_sem]
  refine⟨by kernel_rfl,?_⟩
  rw[show bdV Tryz.prog 218 [(2,vi (-1))]=some (.agg #[vi 0,vi 0,vi (-1),vi 0]) from by kernel_rfl]
  try simp only[go_sem]
  refine zaW (P:=Tryz.prog) (t:=218) (l:=[vi 0,vi 0,vi (-1),vi 0]) hA rfl (zcS _ _ _ _) rfl rfl ?_
  intro w2 hs2 hB2 hk2
  try simp only[go_sem]
  refine hK _ _ ?_;clear hK hgd;clear K;try clear gd
  refine go trivial ?_
  refine zag (.inr rfl) Tryz.ntmps146 rfl (zaL (x:=⟨w.heap.size,0,Option.none⟩) (k:=4) (vr0) rfl rfl (zam hB2 rfl) zae) ?_
  exact⟨rfl,Keep.to_ext hE1 rfl (fun b hb=>by omega) hk2⟩
 have d4:decide (t=16)=false:=decide_eq_false h4
 rw[if_neg h4]
 by_cases h5:t=2
 ·have d5:decide (t=2)=true:=decide_eq_true h5
  rw[if_pos (show t=2∨t=5∨t=12∨t=39 by omega)]
  refine go (an6 d0 d1 d2 d3 d4 d5) ?_
  refine rq ?_;intro gd K hgd hK
  try simp only[go_sem]
  refine⟨by kernel_rfl,?_⟩
  rw[show bdV Tryz.prog 218 [(0,vi 1)]=some (.agg #[vi 1,vi 0,vi 0,vi 0]) from by kernel_rfl]
  try simp only[go_sem]
  refine zaW (P:=Tryz.prog) (t:=218) (l:=[vi 1,vi 0,vi 0,vi 0]) hA rfl (zcS _ _ _ _) rfl rfl ?_
  intro w2 hs2 hB2 hk2
  try simp only[go_sem]
  refine hK _ _ ?_;clear hK hgd;clear K;try clear gd
  refine go trivial ?_
  refine zag (.inr rfl) Tryz.ntmps146 rfl (zaL (x:=⟨w.heap.size,0,Option.none⟩) (k:=4) (vr0) rfl rfl (zam hB2 rfl) zae) ?_
  exact⟨rfl,Keep.to_ext hE1 rfl (fun b hb=>by omega) hk2⟩
 have d5:decide (t=2)=false:=decide_eq_false h5
 by_cases h6:t=5
 ·have d6:decide (t=5)=true:=decide_eq_true h6
  rw[if_pos (show t=2∨t=5∨t=12∨t=39 by omega)]
  refine go (an7 d0 d1 d2 d3 d4 d5 d6) ?_
  refine rq ?_;intro gd K hgd hK
  try simp only[go_sem]
  refine⟨by kernel_rfl,?_⟩
  rw[show bdV Tryz.prog 218 [(0,vi 1)]=some (.agg #[vi 1,vi 0,vi 0,vi 0]) from by kernel_rfl]
  try simp only[go_sem]
  refine zaW (P:=Tryz.prog) (t:=218) (l:=[vi 1,vi 0,vi 0,vi 0]) hA rfl (zcS _ _ _ _) rfl rfl ?_
  intro w2 hs2 hB2 hk2
  try simp only[go_sem]
  refine hK _ _ ?_;clear hK hgd;clear K;try clear gd
  refine go trivial ?_
  refine zag (.inr rfl) Tryz.ntmps146 rfl (zaL (x:=⟨w.heap.size,0,Option.none⟩) (k:=4) (vr0) rfl rfl (zam hB2 rfl) zae) ?_
  exact⟨rfl,Keep.to_ext hE1 rfl (fun b hb=>by omega) hk2⟩
 have d6:decide (t=5)=false:=decide_eq_false h6
 by_cases h7:t=12
 ·have d7:decide (t=12)=true:=decide_eq_true h7
  rw[if_pos (show t=2∨t=5∨t=12∨t=39 by omega)]
  refine go (an8 d0 d1 d2 d3 d4 d5 d6 d7) ?_
  refine rq ?_;intro gd K hgd hK
  try simp only[go_sem]
  refine⟨by kernel_rfl,?_⟩
  rw[show bdV Tryz.prog 218 [(0,vi 1)]=some (.agg #[vi 1,vi 0,vi 0,vi 0]) from by kernel_rfl]
  try simp only[go_sem]
  refine zaW (P:=Tryz.prog) (t:=218) (l:=[vi 1,vi 0,vi 0,vi 0]) hA rfl (zcS _ _ _ _) rfl rfl ?_
  intro w2 hs2 hB2 hk2
  try simp only[go_sem]
  refine hK _ _ ?_;clear hK hgd;clear K;try clear gd
  refine go trivial ?_
  refine zag (.inr rfl) Tryz.ntmps146 rfl (zaL (x:=⟨w.heap.size,0,Option.none⟩) (k:=4) (vr0) rfl rfl (zam hB2 rfl) zae) ?_
  exact⟨rfl,Keep.to_ext hE1 rfl (fun b hb=>by omega) hk2⟩
 have d7:decide (t=12)=false:=decide_eq_false h7
 by_cases h8:t=39
 ·have d8:decide (t=39)=true:=decide_eq_true h8
  rw[if_pos (show t=2∨t=5∨t=12∨t=39 by omega)]
  refine go (an9 d0 d1 d2 d3 d4 d5 d6 d7 d8) ?_
  refine rq ?_;intro gd K hgd hK
  try simp only[go_sem]
  refine⟨by kernel_rfl,?_⟩
  rw[show bdV Tryz.prog 218 [(0,vi 1)]=some (.agg #[vi 1,vi 0,vi 0,vi 0]) from by kernel_rfl]
  try simp only[go_sem]
  refine zaW (P:=Tryz.prog) (t:=218) (l:=[vi 1,vi 0,vi 0,vi 0]) hA rfl (zcS _ _ _ _) rfl rfl ?_
  intro w2 hs2 hB2 hk2
  try simp only[go_sem]
  refine hK _ _ ?_;clear hK hgd;clear K;try clear gd
  refine go trivial ?_
  refine zag (.inr rfl) Tryz.ntmps146 rfl (zaL (x:=⟨w.heap.size,0,Option.none⟩) (k:=4) (vr0) rfl rfl (zam hB2 rfl) zae) ?_
  exact⟨rfl,Keep.to_ext hE1 rfl (fun b hb=>by omega) hk2⟩
 have d8:decide (t=39)=false:=decide_eq_false h8
 rw[if_neg (show¬(t=2∨t=5∨t=12∨t=39) by omega)]
 refine go (an9 d0 d1 d2 d3 d4 d5 d6 d7 d8) ?_
 refine rq ?_;intro gd K hgd hK
 try simp only[go_sem]
 refine⟨by kernel_rfl,?_⟩
 rw[show bdV Tryz.prog 218 [(3,vi (-1))]=some (.agg #[vi 0,vi 0,vi 0,vi (-1)]) from by kernel_rfl]
 try simp only[go_sem]
 refine zaW (P:=Tryz.prog) (t:=218) (l:=[vi 0,vi 0,vi 0,vi (-1)]) hA rfl (zcS _ _ _ _) rfl rfl ?_
 intro w2 hs2 hB2 hk2
 try simp only[go_sem]
 refine hK _ _ ?_;clear hK hgd;clear K;try clear gd
 refine go trivial ?_
 refine zag (.inr rfl) Tryz.ntmps146 rfl (zaL (x:=⟨w.heap.size,0,Option.none⟩) (k:=4) (vr0) rfl rfl (zam hB2 rfl) zae) ?_
 exact⟨rfl,Keep.to_ext hE1 rfl (fun b hb=>by omega) hk2⟩
def txD(d:DatL):Int:=if (zas d.ty).2.2.1<0 then min (max (d.texts.length:Int) 1) 32 else(zas d.ty).2.2.1
def rwD(d:DatL):Int:=if (zas d.ty).2.2.2<0 then(d.raw.length:Int) else(zas d.ty).2.2.2
def zaO(d:DatL):Bool:=decide ((d.names.length:Int)=(zas d.ty).1) && decide ((d.nums.length:Int)=(zas d.ty).2.1) && decide ((d.texts.length:Int)=txD d) && decide ((d.raw.length:Int)=rwD d)
theorem form_ok{w:World}{cs:List Value}{d:DatL}(hd:DatAt w cs d):Fn Tryz.prog 84 #[.agg cs.toArray] w (fun v w'=>v= .bool (zaO d)∧Ext w w'):=by
  obtain⟨nm,nu,tx,rw',rfl,⟨vals,⟨an,cn,rfl,hcn,hgn⟩,hvl,hvr⟩,⟨au,cu,rfl,hcu,hgu⟩,⟨at1,ct,rfl,hct,hgt⟩,⟨ar,cr,rfl,hcr,hgr⟩⟩:=hd.ex
  simp only[List.length_map]at hcu hgu hct hgt hcr hgr
  simp only[List.length_map,hvl]
  refine enter Tryz.func84 Tryz.ntmps84 rfl rfl ?_
  refine go trivial ?_
  refine zan ?_
  intro w1 hE1 hs1 hA
  have p0:zad w1 (some ⟨w.heap.size,0,Option.none⟩)=some (vi d.ty):=zaa hA rfl
  obtain⟨⟨a,b,c,r⟩,hsh⟩:∃x,zas d.ty=x:=⟨_,rfl⟩
  have htx:txD d=if c<0 then min (max (d.texts.length:Int) 1) 32 else c:=by unfold txD;rw[hsh]
  have hrw:rwD d=if r<0 then(d.raw.length:Int) else r:=by unfold rwD;rw[hsh]
  refine rq ?_;intro gd K hgd hK
  try simp (disch:=first|omega|assumption|rfl) only[go_sem,p0,Nat.add_zero]
  refine Fn.mono (of_ok w1 d.ty) ?_
  rintro _ w2 ⟨rfl,hE2⟩
  rw[hsh]
  unfold ze4
  simp only
  try simp only[go_sem]
  refine zbv (P:=Tryz.prog) (l:=[vi a,vi b,vi c,vi r]) rfl (zcS _ _ _ _) rfl rfl ?_
  intro w3 hE3 hs3 hB3
  try simp only[go_sem]
  refine hK _ _ ?_;clear hK hgd;clear K;try clear gd
  obtain⟨P,hP⟩:∃P,w2.heap.size=P:=⟨_,rfl⟩
  rw[hP]at hB3
  simp only[hP]
  have hE13:=(hE1.trans hE2).trans hE3
  have hA3:=Ext.at (hE2.trans hE3) hA
  have hs2:=hE2.size
  have hs3':=hE3.size
  have vars:∀{z:World},Keep (fun i=>i=P) w3 z→zad z (some ⟨w.heap.size,1,Option.none⟩)=some (.slice an d.names.length cn)∧zad z (some ⟨w.heap.size,2,Option.none⟩)=some (.slice au d.nums.length cu)∧zad z (some ⟨w.heap.size,3,Option.none⟩)=some (.slice at1 d.texts.length ct)∧zad z (some ⟨w.heap.size,4,Option.none⟩)=some (.slice ar d.raw.length cr):=fun {z} hk=>by
    have hz:=(hk.block w.heap.size (by omega) (by omega)).trans hA3
    exact⟨zaa hz rfl,zaa hz rfl,zaa hz rfl,zaa hz rfl⟩
  have c2:zad w3 (some ⟨P,2,Option.none⟩)=some (vi c):=zaJ (j:=2) hB3 rfl
  obtain⟨t1,ht1⟩:∃t,decide (c<0)=t:=⟨_,rfl⟩
  refine go (an3 c2 ht1 (Nat.zero_add 2)) ?_
  refine zav (Q:=fun e σ' ds' v'=>e= .normal∧ds'=[]∧(σ' 1= .pointer (some ⟨w.heap.size,0,Option.none⟩)∧σ' 3= .pointer (some ⟨P,0,Option.none⟩))∧v'.heap[P]? =some (.cells [vi a,vi b,vi (txD d),vi r].toArray 218 (0,0))∧Keep (fun i=>i=P) w3 v') ?_ ?_
  · cases t1 with
    |true=>
      have hc:=of_decide_eq_true ht1
      rw[if_pos hc]at htx
      obtain⟨_,_,k3,_⟩:=vars (Keep.refl _ w3)
      refine go trivial ?_
      refine rq ?_;intro gd K hgd hK
      try simp (disch:=first|omega|assumption|rfl) only[go_sem,k3,Nat.zero_add]
      refine op_max2 (vr0) (vr0) ?_
      try simp only[go_sem]
      refine zdB (vr0) (vr0) ?_
      rw[←htx]
      try simp (disch:=first|omega|assumption|rfl) only[go_sem,Nat.zero_add]
      refine zci (P:=Tryz.prog) (t:=3) (j:=2) (u:=vi (txD d)) hB3 (by simp) rfl rfl rfl ?_
      intro z hz hbz hkz
      try simp only[go_sem]
      refine hK _ _ ?_;clear hK hgd;clear K;try clear gd
      refine go trivial ?_
      exact⟨rfl,rfl,⟨vr0,vr0⟩,hbz,hkz⟩
    |false=>
      have hc:=of_decide_eq_false ht1
      rw[if_neg hc]at htx
      refine go trivial ?_
      exact⟨rfl,rfl,⟨vr0,vr0⟩,by rw[htx];exact hB3,Keep.refl _ _⟩
  rintro _ σ1 _ v1 ⟨rfl,rfl,⟨s1,s3⟩,hB4,hk4⟩
  have c3:zad v1 (some ⟨P,3,Option.none⟩)=some (vi r):=zaJ (j:=3) hB4 rfl
  obtain⟨t2,ht2⟩:∃t,decide (r<0)=t:=⟨_,rfl⟩
  refine go (an5 s1 s3 c3 ht2 (Nat.zero_add 3)) ?_
  refine zav (Q:=fun e σ' ds' v'=>e= .normal∧ds'=[]∧(σ' 1= .pointer (some ⟨w.heap.size,0,Option.none⟩)∧σ' 3= .pointer (some ⟨P,0,Option.none⟩))∧v'.heap[P]? =some (.cells [vi a,vi b,vi (txD d),vi (rwD d)].toArray 218 (0,0))∧Keep (fun i=>i=P) w3 v') ?_ ?_
  · cases t2 with
    |true=>
      rw[if_pos (of_decide_eq_true ht2)]at hrw
      obtain⟨_,_,_,k4⟩:=vars hk4
      refine go (an2 s1 s3) ?_
      refine rq ?_;intro gd K hgd hK
      try simp (disch:=first|omega|assumption|rfl) only[go_sem,s1,s3,k4,Nat.zero_add]
      refine zci (P:=Tryz.prog) (t:=3) (j:=3) (u:=vi (d.raw.length:Int)) hB4 (by simp) rfl rfl rfl ?_
      intro z hz hbz hkz
      try simp only[go_sem]
      refine hK _ _ ?_;clear hK hgd;clear K;try clear gd
      refine go (an2 s1 s3) ?_
      exact⟨rfl,rfl,⟨(vq1 s1),(vq1 s3)⟩,by rw[hrw];exact hbz,hk4.trans hkz⟩
    |false=>
      rw[if_neg (of_decide_eq_false ht2)]at hrw
      refine go (an2 s1 s3) ?_
      exact⟨rfl,rfl,⟨(vq1 s1),(vq1 s3)⟩,by rw[hrw];exact hB4,hk4⟩
  clear s1 s3
  rintro _ σ2 _ v2 ⟨rfl,rfl,⟨s1,s3⟩,hB5,hk5⟩
  obtain⟨k1,k2,k3,k4⟩:=vars hk5
  have e0:zad v2 (some ⟨P,0,Option.none⟩)=some (vi a):=zaJ (j:=0) hB5 rfl
  have e1:zad v2 (some ⟨P,1,Option.none⟩)=some (vi b):=zaJ (j:=1) hB5 rfl
  have e2:zad v2 (some ⟨P,2,Option.none⟩)=some (vi (txD d)):=zaJ (j:=2) hB5 rfl
  have e3:zad v2 (some ⟨P,3,Option.none⟩)=some (vi (rwD d)):=zaJ (j:=3) hB5 rfl
  have hfm:zaO d=(decide ((d.names.length:Int)=a) && decide ((d.nums.length:Int)=b) && decide ((d.texts.length:Int)=txD d) && decide ((d.raw.length:Int)=rwD d)):=by unfold zaO;rw[hsh]
  have hEf:Ext w v2:=Keep.to_ext hE13 rfl (fun i hi=>by omega) hk5
  obtain⟨b1,hb1⟩:∃t,decide ((d.names.length:Int)=a)=t:=⟨_,rfl⟩
  obtain⟨b2,hb2⟩:∃t,decide ((d.nums.length:Int)=b)=t:=⟨_,rfl⟩
  obtain⟨b3,hb3⟩:∃t,decide ((d.texts.length:Int)=txD d)=t:=⟨_,rfl⟩
  obtain⟨b4,hb4⟩:∃t,decide ((d.raw.length:Int)=rwD d)=t:=⟨_,rfl⟩
  rw[hb1,hb2,hb3,hb4]at hfm
  rw[hfm]
  refine go (an2 s1 s3) ?_
  cases b1<;>cases b2<;>cases b3<;>cases b4<;>
    (refine rgg [(6,29),(14,37),(22,45)] (an9 s1 s3 k1 k2 k3 k4 e0 e1 (an9 e2 e3 hb1 hb2 hb3 hb4 (Nat.zero_add 1) (Nat.zero_add 2) (an2 (Nat.zero_add 3) (Nat.zero_add 4)))) ?_
     refine go trivial ?_
     refine zag (.inr rfl) Tryz.ntmps84 rfl (zac (vr0) zae) ?_
     exact⟨rfl,hEf⟩)
def zcT(ts:List Lab):Bool:=ts.any fun t=>decide (255<t.length)
theorem zgL(w:World)(t:Lab)(hl:t.length≤1000000000):Fn Tryz.prog 86 #[vs t] w (fun v w'=>v= .bool (decide (255<t.length))∧Ext w w'):=by
 have h1:decide ((255:Int)<(t.length:Int))=decide (255<t.length):=decide_eq_decide.2 (by omega)
 refine enter Tryz.func86 Tryz.ntmps86 rfl rfl ?_
 refine go h1 ?_
 refine rt0 Tryz.ntmps86 ?_
 exact⟨rfl,Keep.refl _ _⟩
theorem Idx_ok{w:World}{v:Value}{ts:List Lab}(hr:Row w v (ts.map vs))(hl:ts.length≤1000000000)(hx:∀t∈ts,t.length≤1000000000):Fn Tryz.prog 147 #[v,.func (.func 86) #[] #[]] w (fun u w'=>Ext w w'∧∃k:Int,u=vi k∧decide (0≤k)=zcT ts):=by
 obtain⟨a,c,rfl,hg⟩:=zbt hr
 refine enter Tryz.func147 Tryz.ntmps147 rfl rfl ?_
 refine go trivial ?_
 refine zbh ts.length (fun i σ v=>(σ 0= .slice a ts.length c∧σ 1= .func (.func 86) #[] #[]∧σ 7=vi ts.length∧σ 8=vi i)∧Ext w v∧∀j (h:j<ts.length),j<i→ts[j].length≤255) ?_ ?_ ?_
 ·exact⟨⟨vr0,vr0,vr0,vr0⟩,Keep.refl _ _,fun j _ h=>by omega⟩
 ·rintro i σ v hi r ⟨⟨s0,s1,s7,s8⟩,hE,hlow⟩
  obtain⟨x,rfl,g0⟩:=hg i hi
  have g:=zab hE g0
  obtain⟨t,ht⟩:∃t,ts[i]=t:=⟨_,rfl⟩
  rw[ht]at g
  have htl:=hx t (ht▸List.getElem_mem hi)
  have hi0:(0:Int)≤(i:Int):=by omega
  have hi1:(i:Int)<(ts.length:Int):=by omega
  have hi2:(i:Int)+1=((i+1:Nat):Int):=by push_cast;rfl
  refine go (an8 s0 s1 s7 s8 r g hi0 hi1) ?_
  refine rc (an6 s0 s1 s8 g hi0 hi1) (zgL v t htl) ?_
  rintro _ v1 ⟨rfl,hE1⟩
  by_cases hlt:255<t.length
  ·rw[decide_eq_true hlt]
   refine rgo (an2 s0 s8) ?_
   refine zag (.inr rfl) Tryz.ntmps147 rfl (zac ((vr1 s8)) zae) ?_
   refine⟨hE.trans hE1,(i:Int),rfl,?_⟩
   have:zcT ts=true:=by
    unfold zcT
    rw[List.any_eq_true]
    exact⟨t,ht▸List.getElem_mem hi,decide_eq_true hlt⟩
   rw[this]
   exact decide_eq_true hi0
  ·rw[decide_eq_false hlt]
   refine rgo (an5 s0 s1 s7 s8 hi2) ?_
   refine⟨rfl,⟨(vq1 s0),(vq1 s1),(vq1 s7),(vq1 hi2)⟩,hE.trans hE1,fun j hj hji=>?_⟩
   by_cases e:j=i
   ·subst e;rw[ht];omega
   ·exact hlow j hj (by omega)
 ·rintro σ v r ⟨⟨s0,s1,s7,s8⟩,hE,hlow⟩
  refine go (an5 s0 s1 s7 s8 r) ?_
  refine zag (.inr rfl) Tryz.ntmps147 rfl (zac (vr0) zae) ?_
  refine⟨hE, -1,rfl,?_⟩
  have:zcT ts=false:=by
   unfold zcT
   rw[List.any_eq_false]
   intro t ht
   obtain⟨j,hj,rfl⟩:=List.mem_iff_getElem.1 ht
   have:=hlow j hj hj
   simp;omega
  rw[this];rfl
theorem ze2{w:World}{v:Value}{ts:List Lab}(hr:Row w v (ts.map vs))(hl:ts.length≤1000000000)(hx:∀t∈ts,t.length≤1000000000):Fn Tryz.prog 85 #[v,.func (.func 86) #[] #[]] w (fun u w'=>u= .bool (zcT ts)∧Ext w w'):=by
 refine enter Tryz.func85 Tryz.ntmps85 rfl rfl ?_
 refine go trivial ?_
 refine rc trivial (Idx_ok hr hl hx) ?_
 rintro _ w1 ⟨hE1,k,rfl,hk⟩
 refine rgo hk ?_
 refine rt0 Tryz.ntmps85 ?_
 exact⟨rfl,hE1⟩
def zbz(d:DatL):Int:=if d.ty<1∨65535<d.ty then 6 else if zaO d=false then 2 else match d.names.find? (fun n=>decide (zaR n≠0)) with
 |some n=>zaR n
 |Option.none=>if d.ty=15∧65535<d.nums.headD 0 then 7 else if 1024<d.raw.length∨zcT d.texts=true then 3 else 0
theorem zdw{w:World}{cs:List Value}{d:DatL}(hd:DatAt w cs d)(hT:DatT d):Fn Tryz.prog 32 #[.agg cs.toArray] w (fun v w'=>v=vi (zbz d)∧Ext w w'):=by
 have hS:=hT.s
 have hd0:=hd
 obtain⟨nm,nu,tx,rw',rfl,⟨vals,⟨an,cn,rfl,hcn,hgn⟩,hvl,hvr⟩,hnu,htx,hrw⟩:=hd.ex
 obtain⟨au,cu,hau,hcu,hgu⟩:=id hnu
 obtain⟨at1,ct,hat,_⟩:=id htx
 obtain⟨ar,cr,har,_⟩:=id hrw
 rw[List.length_map]at hau hat har hcu
 subst hau
 subst hat
 subst har
 unfold zbz
 refine enter Tryz.func32 Tryz.ntmps32 rfl rfl ?_
 refine go trivial ?_
 refine zan ?_
 intro w1 hE1 hs1 hA
 have p0:zad w1 (some ⟨w.heap.size,0,Option.none⟩)=some (vi d.ty):=zaa hA rfl
 have p5:zaB w1 (some ⟨w.heap.size,0,Option.none⟩) 5=some [vi d.ty,.slice an vals.length cn,.slice au d.nums.length cu,.slice at1 d.texts.length ct,.slice ar d.raw.length cr]:=zam (n:=5) hA rfl
 by_cases c1:d.ty<1
 ·rw[if_pos (.inl c1)]
  refine go trivial ?_
  refine rgg [(3,10)] (an3 p0 (decide_eq_true c1) (Nat.add_zero 0)) ?_
  refine go trivial ?_
  refine zag (.inr rfl) Tryz.ntmps32 rfl (zac (vr0) zae) ?_
  exact⟨rfl,hE1⟩
 by_cases c2:65535<d.ty
 ·rw[if_pos (.inr c2)]
  refine go trivial ?_
  refine rgg [(3,10)] (an4 p0 (decide_eq_false c1) (decide_eq_true c2) (Nat.add_zero 0)) ?_
  refine go trivial ?_
  refine zag (.inr rfl) Tryz.ntmps32 rfl (zac (vr0) zae) ?_
  exact⟨rfl,hE1⟩
 rw[if_neg (by omega)]
 refine go trivial ?_
 refine rgg [(3,10)] (an4 p0 (decide_eq_false c1) (decide_eq_false c2) (Nat.add_zero 0)) ?_
 refine go trivial ?_
 refine rc p5 (form_ok (hd0.ext hE1)) ?_
 rintro _ w2 ⟨rfl,hE2⟩
 cases hf:zaO d with
 |false=>
  rw[if_pos rfl]
  refine rgo trivial ?_
  refine zag (.inr rfl) Tryz.ntmps32 rfl (zac (vr0) zae) ?_
  exact⟨rfl,hE1.trans hE2⟩
 |true=>
 rw[if_neg (by decide)]
 have hA2:=Ext.at hE2 hA
 have q1:zad w2 (some ⟨w.heap.size,1,Option.none⟩)=some (.slice an vals.length cn):=zaa hA2 rfl
 refine rgo (an2 q1 (Nat.zero_add 1)) ?_
 have hE12:=hE1.trans hE2
 have hnames:=hS.names
 have hnn:=hT.nn
 refine zbh vals.length (fun i σ v=>(σ 1= .pointer (some ⟨w.heap.size,0,Option.none⟩)∧σ 20= .slice an vals.length cn∧σ 21=vi vals.length∧σ 22=vi i)∧Ext w2 v∧∀j (h:j<d.names.length),j<i→zaR d.names[j]=0) ?_ ?_ ?_
 ·exact⟨⟨vr0,vr0,vr0,vr0⟩,Keep.refl _ _,fun j _ h=>by omega⟩
 ·rintro i σ v hi r ⟨⟨s1,s20,s21,s22⟩,hE,hlow⟩
  have g0:=hgn i hi
  obtain⟨xN,rfl⟩:=Option.isSome_iff_exists.1 (zaf g0)
  have hEv:=hE12.trans hE
  have g:=zab hEv g0
  have hin:i<d.names.length:=by omega
  have hrow:=(hvr i hi hin).ext hEv
  obtain⟨nv,hnv⟩:∃nv,vals[i]=nv:=⟨_,rfl⟩
  obtain⟨n,hn⟩:∃n,d.names[i]=n:=⟨_,rfl⟩
  rw[hnv]at g hrow
  rw[hn]at hrow
  have hnS:=hnames n (hn▸List.getElem_mem hin)
  have hi0:(0:Int)≤(i:Int):=by omega
  have hi1:(i:Int)<(vals.length:Int):=by omega
  have hi2:(i:Int)+1=((i+1:Nat):Int):=by push_cast;rfl
  obtain⟨na,nc,hne,_⟩:=id hrow
  refine go (an8 s1 s20 s21 s22 r g hi0 hi1) ?_
  refine rc (an4 s1 s20 s21 s22) (zew v nv n hrow (fun l hl=>by have:=hnS.1 l hl;omega) (by have:=hnS.2;omega)) ?_
  rintro _ v1 ⟨rfl,hE1'⟩
  by_cases hc:zaR n=0
  ·refine rgo (an6 s1 s20 s21 s22 hi2 (decide_eq_true hc)) ?_
   refine⟨rfl,⟨(vq1 s1),(vq1 s20),(vq1 s21),(vq1 hi2)⟩,hE.trans hE1',fun j hj hji=>?_⟩
   by_cases e:j=i
   ·subst e;rw[hn];exact hc
   ·exact hlow j hj (by omega)
  ·refine rgo (an2 s1 (decide_eq_false hc)) ?_
   refine zag (.inr rfl) Tryz.ntmps32 rfl (zac (vr0) zae) ?_
   have hfind:d.names.find? (fun n=>decide (zaR n≠0))=some n:=by
    rw[List.find?_eq_some_iff_getElem]
    refine⟨decide_eq_true hc,i,hin,hn,fun j hj=>?_⟩
    simp[hlow j (by omega) hj]
   rw[hfind]
   exact⟨rfl,hEv.trans hE1'⟩
 rintro σ v r ⟨⟨s1,s20,s21,s22⟩,hE,hlow⟩
 have hnone:d.names.find? (fun n=>decide (zaR n≠0))=Option.none:=by
  rw[List.find?_eq_none]
  intro n hn
  obtain⟨j,hj,rfl⟩:=List.mem_iff_getElem.1 hn
  simp[hlow j hj (by omega)]
 rw[hnone]
 simp only
 have hEv:=hE12.trans hE
 have hAv:=Ext.at (hE2.trans hE) hA
 have u0:zad v (some ⟨w.heap.size,0,Option.none⟩)=some (vi d.ty):=zaa hAv rfl
 have u2:zad v (some ⟨w.heap.size,2,Option.none⟩)=some (.slice au d.nums.length cu):=zaa hAv rfl
 have u3:zad v (some ⟨w.heap.size,3,Option.none⟩)=some (.slice at1 d.texts.length ct):=zaa hAv rfl
 have u4:zad v (some ⟨w.heap.size,4,Option.none⟩)=some (.slice ar d.raw.length cr):=zaa hAv rfl
 refine go (an5 s1 s20 s21 s22 r) ?_
 obtain⟨tt,htt⟩:∃tt,decide (d.ty=15∧65535<d.nums.headD 0)=tt:=⟨_,rfl⟩
 refine zav (Q:=fun e σ' ds' v'=>e= .normal∧ds'=[]∧v=v'∧σ' 1= .pointer (some ⟨w.heap.size,0,Option.none⟩)∧σ' 32= .bool tt) ?_ ?_
 ·by_cases c3:d.ty=15
  ·have hn1:d.nums.length=1:=by
    unfold zaO at hf
    simp only[Bool.and_eq_true,decide_eq_true_eq]at hf
    have h2:=hf.1.1.2
    rw[c3]at h2
    have h3:(zas 15).2.1=1:=rfl
    rw[h3]at h2
    omega
   obtain⟨x,hx⟩:∃x,d.nums[0]'(by omega)=x:=⟨_,rfl⟩
   have hhd:d.nums.headD 0=x:=by
    cases hnn:d.nums with
    |nil=>rw[hnn]at hn1;cases hn1
    |cons a l=>simp[hnn]at hx;simpa using hx
   have gu:=zab hEv (hgu 0 (by rw[List.length_map];omega))
   rw[List.getElem_map,hx,zaC]at gu
   obtain⟨xU,rfl⟩:∃x,au=some x:=by
    cases au with
    |none=>cases gu
    |some x=>exact⟨x,rfl⟩
   have n0:(0:Int)<(d.nums.length:Int):=by omega
   have d2:decide ((65535:Int)<x)=tt:=by rw[←htt,hhd];exact decide_eq_decide.2 ⟨fun h=>⟨c3,h⟩,fun h=>h.2⟩
   refine rgg [(3,36)] (an9 s1 u0 u2 (decide_eq_true c3) gu n0 d2 (Nat.add_zero 0) (an4 (Nat.zero_add 2) Int.toNat_zero (Nat.zero_mul 1) (zaC (some xU)))) ?_
   exact⟨rfl,rfl,rfl,(vq1 s1),vr0⟩
  ·have d2:tt=false:=by rw[←htt];exact decide_eq_false fun h=>c3 h.1
   subst d2
   refine rgg [(3,36)] (an4 s1 u0 (decide_eq_false c3) (Nat.add_zero 0)) ?_
   exact⟨rfl,rfl,rfl,(vq1 s1),vr0⟩
 rintro _ σ1 _ v1 ⟨rfl,rfl,hv1,g1,g32⟩
 subst hv1
 cases tt with
 |true=>
  rw[if_pos (of_decide_eq_true htt)]
  refine go (an2 g1 g32) ?_
  refine zag (.inr rfl) Tryz.ntmps32 rfl (zac (vr0) zae) ?_
  exact⟨rfl,hEv⟩
 |false=>
 rw[if_neg (of_decide_eq_false htt)]
 have htx':=hS.tx
 by_cases c4:1024<d.raw.length
 ·have d4:decide ((1024:Int)<(d.raw.length:Int))=true:=decide_eq_true (by omega)
  rw[if_pos (.inl c4)]
  refine go (an5 g1 g32 u4 d4 (Nat.zero_add 4)) ?_
  refine zag (.inr rfl) Tryz.ntmps32 rfl (zac (vr0) zae) ?_
  exact⟨rfl,hEv⟩
 have d4:decide ((1024:Int)<(d.raw.length:Int))=false:=decide_eq_false (by omega)
 refine go (an5 g1 g32 u4 d4 (Nat.zero_add 4)) ?_
 refine rc (an3 g1 u3 (Nat.zero_add 3)) (ze2 (htx.ext hEv) (by have:=hS.nt;omega) fun t ht=>by have:=htx' t ht;omega) ?_
 rintro _ v2 ⟨rfl,hE3⟩
 cases hlt:zcT d.texts with
 |true=>
  rw[if_pos (.inr rfl)]
  refine rgo trivial ?_
  refine zag (.inr rfl) Tryz.ntmps32 rfl (zac (vr0) zae) ?_
  exact⟨rfl,hEv.trans hE3⟩
 |false=>
  rw[if_neg (fun h=>by rcases h with h|h;exact c4 h;cases h)]
  refine rgo trivial ?_
  refine zag (.inr rfl) Tryz.ntmps32 rfl (zac (vr0) zae) ?_
  exact⟨rfl,hEv.trans hE3⟩
def zfC(t:Int)(n:Nat):Bool:=if (zas t).2.2.1<0 then decide (1≤(n:Int)) && decide ((n:Int)≤32) else if 0<(zas t).2.2.2 then decide ((n:Int)=1) else if (zas t).2.2.2<0 then false else decide ((n:Int)=(zas t).1+(zas t).2.1)
theorem shape_lt(t:Int):0≤(zas t).1∧(zas t).1≤5∧0≤(zas t).2.1∧(zas t).2.1≤5:=by
 unfold zas
 (repeat' split)<;>decide
theorem zeI{W0 w:World}{b:Nat}{ws:List (Lab×Bool)}{ov:Value}{e:Int}(h:Rdr W0 w b ws ov e)(t:Int):Fn Tryz.prog 166 #[.pointer (some ⟨b,0,Option.none⟩),vi t] w (fun v w'=>v= .bool (zfC t ws.length)∧Ext w w'):=by
  obtain⟨wv,hb,hr⟩:=h.at'
  obtain⟨wa,wc,rfl,_,_⟩:=hr.open
  obtain⟨n,hn⟩:∃n,ws.length=n:=⟨_,rfl⟩
  rw[hn]at hb ⊢
  have hsl:=shape_lt t
  obtain⟨⟨a,c,x,r⟩,hsh⟩:∃x,zas t=x:=⟨_,rfl⟩
  unfold zfC
  rw[hsh]at hsl ⊢
  simp only at hsl ⊢
  refine enter Tryz.func166 Tryz.ntmps166 rfl rfl ?_
  refine go trivial ?_
  refine rq ?_;intro gd K hgd hK
  try simp only[go_sem]
  refine Fn.mono (of_ok w t) ?_
  rintro _ w2 ⟨rfl,hE2⟩
  rw[hsh]
  unfold ze4
  simp only
  try simp only[go_sem]
  refine zbv (P:=Tryz.prog) (l:=[vi a,vi c,vi x,vi r]) rfl (zcS _ _ _ _) rfl rfl ?_
  intro w3 hE3 hs3 hB3
  try simp only[go_sem]
  refine hK _ _ ?_;clear hK hgd;clear K;try clear gd
  have hE:=hE2.trans hE3
  have c0:zad w3 (some ⟨b,0,Option.none⟩)=some (.slice wa n wc):=zaa (Ext.at hE hb) rfl
  have k0:zad w3 (some ⟨w2.heap.size,0,Option.none⟩)=some (vi a):=zaJ (j:=0) hB3 rfl
  have k1:zad w3 (some ⟨w2.heap.size,1,Option.none⟩)=some (vi c):=zaJ (j:=1) hB3 rfl
  have k2:zad w3 (some ⟨w2.heap.size,2,Option.none⟩)=some (vi x):=zaJ (j:=2) hB3 rfl
  have k3:zad w3 (some ⟨w2.heap.size,3,Option.none⟩)=some (vi r):=zaJ (j:=3) hB3 rfl
  by_cases hx:x<0
  · rw[if_pos hx]
    refine go (an3 k2 (decide_eq_true hx) (Nat.zero_add 2)) ?_
    obtain⟨b1,hb1⟩:∃t,decide (1≤(n:Int))=t:=⟨_,rfl⟩
    obtain⟨b2,hb2⟩:∃t,decide ((n:Int)≤32)=t:=⟨_,rfl⟩
    rw[hb1,hb2]
    cases b1<;>cases b2<;>
      (refine rgg [(6,18)] (an4 c0 hb1 hb2 (Nat.add_zero 0)) ?_
       refine go trivial ?_
       refine zag (.inr rfl) Tryz.ntmps166 rfl (zac (vr0) zae) ?_
       exact⟨rfl,hE⟩)
  rw[if_neg hx]
  by_cases hr1:0<r
  · rw[if_pos hr1]
    refine go (an9 k2 (decide_eq_false hx) (Nat.zero_add 2) k3 (decide_eq_true hr1) (Nat.zero_add 3) c0 (Nat.add_zero 0) trivial) ?_
    refine zag (.inr rfl) Tryz.ntmps166 rfl (zac (vr0) zae) ?_
    exact⟨rfl,hE⟩
  rw[if_neg hr1]
  by_cases hr2:r<0
  · rw[if_pos hr2]
    refine go (an8 k2 (decide_eq_false hx) (Nat.zero_add 2) k3 (decide_eq_false hr1) (Nat.zero_add 3) (decide_eq_true hr2) trivial) ?_
    refine zag (.inr rfl) Tryz.ntmps166 rfl (zac (vr0) zae) ?_
    exact⟨rfl,hE⟩
  rw[if_neg hr2]
  refine go (an8 k2 (decide_eq_false hx) (Nat.zero_add 2) k3 (decide_eq_false hr1) (Nat.zero_add 3) (decide_eq_false hr2) trivial) ?_
  refine za4 (fun _=>false) [(0,true),(1,true),(2,true),(3,true),(4,true),(5,true),(6,true),(7,true),(8,true),(9,true),(10,true),(11,true)] NoS mixed (by kernel_rfl) ?_;intro gd K x hgd hx hxe hK;have hx0:=za5 hxe;clear hxe
  have c0x:=zab hx0 c0
  have k0x:=zab hx0 k0
  have k1x:=zab hx0 k1
  simp (disch:=first|omega|assumption|rfl) only[go_sem,c0x,k0x,k1x,Nat.add_zero,Nat.zero_add]
  refine hK _ _ ?_;clear hK hgd;clear K;try clear gd
  refine go trivial ?_
  refine zag (.inr rfl) Tryz.ntmps166 rfl (zac (vr0) zae) ?_
  exact⟨rfl,hE.trans hx0⟩
theorem zcz(t:Int)(a b c d:Value)(ha:one a=true)(hb:one b=true)(hc:one c=true)(hd:one d=true):∀v∈ [vi t,a,b,c,d],one v=true:=fun v h=>by
 simp at h
 rcases h with rfl|rfl|rfl|rfl|rfl<;>first|rfl|assumption
theorem zgs{W0 w:World}{b:Nat}{t:Lab}{q:Bool}{ov:Value}{e:Int}{ps:List Lab}(hW:WX W0)(h:Rdr W0 w b [(t,q)] ov e)(ht:t.length≤1000000)(hsp:SplP t ps)(hpl:ps.length≤1000000)(hpx:∀p∈ps,p.length≤1000000):
  Fn Tryz.prog 106 #[.pointer (some ⟨b,0,Option.none⟩),vi 1] w (fun v w'=>(∃rv,v= .agg #[vi 1,.slice Option.none 0 0,.slice Option.none 0 0,.slice Option.none 0 0,rv]∧Own w.heap.size w' 5 rv (ps.map octP))∧Rdr W0 w' b [] ov (zfO (if ps.length=4 then(if q=true then zaQ e 2 else e) else zaQ (if q=true then zaQ e 2 else e) 2) ps)∧Keep (fun i=>i=b) w w'):=by
 have hbl:=h.lt
 have hlow:=h.low
 refine enter Tryz.func106 Tryz.ntmps106 rfl rfl ?_
 refine go trivial ?_
 refine zan ?_
 intro w1 hE1 hs1 hA
 refine rq ?_;intro gd K hgd hK
 try simp only[go_sem]
 refine⟨by kernel_rfl,?_⟩
 rw[show bdV Tryz.prog 33 [(0,vi 1)]=some (.agg #[vi 1,.slice Option.none 0 0,.slice Option.none 0 0,.slice Option.none 0 0,.slice Option.none 0 0]) from by kernel_rfl]
 try simp only[go_sem]
 refine zbv (P:=Tryz.prog) (l:=[vi 1,.slice Option.none 0 0,.slice Option.none 0 0,.slice Option.none 0 0,.slice Option.none 0 0]) rfl (zcz _ _ _ _ _ rfl rfl rfl rfl) rfl rfl ?_
 intro w2 hE2 hs2 hB2
 try simp only[go_sem]
 refine hK _ _ ?_;clear hK hgd;clear K;try clear gd
 rw[hs1]at hB2
 simp only[hs1]
 have hR2:=(h.extx hE1).extx hE2
 refine go trivial ?_
 refine rc trivial (zeI hR2 1) ?_
 rintro _ w3 ⟨rfl,hE3⟩
 rw[show zfC 1 ([(t,q)]:List (Lab×Bool)).length=true from rfl]
 have d1:decide ((1:Int)=1)=true:=rfl
 refine rgo d1 ?_
 have hR3:=hR2.extx hE3
 have hs3:=hE3.size
 refine rq ?_;intro gd K hgd hK
 try simp only[go_sem]
 refine Fn.mono (zf0 hW hR3 (by simp) ht hsp hpl hpx) ?_
 rintro rv w4 ⟨hown,hR4,hk4⟩
 obtain⟨ra,rc',hrv⟩:=hown.slice
 have hs4:=hk4.size
 have hB4:=(hk4.block (w.heap.size+1) (by omega) (by omega)).trans (Ext.at hE3 hB2)
 try simp (disch:=first|omega|assumption|rfl) only[go_sem,Nat.zero_add]
 refine zci (P:=Tryz.prog) (t:=31) (j:=4) (u:=rv) hB4 (by simp) (by rw[hrv];rfl) rfl rfl ?_
 intro w5 hs5 hB5 hk5
 try simp only[go_sem]
 refine hK _ _ ?_;clear hK hgd;clear K;try clear gd
 simp only[List.set_cons_zero,List.set_cons_succ]at hB5
 have q5:=zam (n:=5) hB5 rfl
 refine go trivial ?_
 refine rq ?_;intro gd K hgd hK
 try simp (disch:=first|omega|assumption|rfl) only[go_sem,q5]
 have hA5:w5.heap[w.heap.size]? =_:=(hk5.block _ (by omega) (by omega)).trans ((hk4.block _ (by omega) (by omega)).trans (Ext.at (hE2.trans hE3) hA))
 refine zaW (P:=Tryz.prog) (t:=33) (l:=[vi 1,.slice Option.none 0 0,.slice Option.none 0 0,.slice Option.none 0 0,rv]) hA5 rfl (zcz _ _ _ _ _ rfl rfl rfl (by rw[hrv];rfl)) rfl rfl ?_
 intro w6 hs6 hB6 hk6
 try simp only[go_sem]
 refine hK _ _ ?_;clear hK hgd;clear K;try clear gd
 refine go trivial ?_
 refine zag (.inr rfl) Tryz.ntmps106 rfl (zaL (x:=⟨w.heap.size,0,Option.none⟩) (k:=5) (vr0) rfl rfl (zam hB6 rfl) zae) ?_
 have hE13:=(hE1.trans hE2).trans hE3
 refine⟨⟨rv,rfl,((hown.keep hk5 fun i hi hs=>by have:=(hown.ge hi).1;omega).keep hk6 fun i hi hs=>by have:=(hown.ge hi).1;omega).mono (by omega)⟩,(hR4.keep hk5 fun i hi=>by omega).keep hk6 fun i hi=>by omega,?_⟩
 exact((((hE13.mono fun _ _ h=>h.elim):Keep (fun i=>i=b) w w3).trans hk4).own hk5 fun i hi h=>by omega).own hk6 fun i hi h=>by omega
def untT(t:Lab):Lab:=(unD [] 0 t []).1
def zfN(e:Int)(ws:List (Lab×Bool)):Int:=ws.foldl (fun e x=>zaQ e (errT x.1)) e
theorem own16_ok{W0 w:World}{b:Nat}{ws:List (Lab×Bool)}{ov:Value}{e:Int}(h:Rdr W0 w b ws ov e)(h1:1≤ws.length)(h32:ws.length≤32)(hx:∀x∈ws,x.1.length≤1000000000):
  Fn Tryz.prog 106 #[.pointer (some ⟨b,0,Option.none⟩),vi 16] w (fun v w'=>(∃tv,v= .agg #[vi 16,.slice Option.none 0 0,.slice Option.none 0 0,tv,.slice Option.none 0 0]∧Own w.heap.size w' 9 tv ((ws.map fun x=>untT x.1).map vs))∧Rdr W0 w' b [] ov (zfN e ws)∧Keep (fun i=>i=b) w w'):=by
 have hbl:=h.lt
 have hlow:=h.low
 refine enter Tryz.func106 Tryz.ntmps106 rfl rfl ?_
 refine go trivial ?_
 refine zan ?_
 intro w1 hE1 hs1 hA
 refine rq ?_;intro gd K hgd hK
 try simp only[go_sem]
 refine⟨by kernel_rfl,?_⟩
 rw[show bdV Tryz.prog 33 [(0,vi 16)]=some (.agg #[vi 16,.slice Option.none 0 0,.slice Option.none 0 0,.slice Option.none 0 0,.slice Option.none 0 0]) from by kernel_rfl]
 try simp only[go_sem]
 refine zbv (P:=Tryz.prog) (l:=[vi 16,.slice Option.none 0 0,.slice Option.none 0 0,.slice Option.none 0 0,.slice Option.none 0 0]) rfl (zcz _ _ _ _ _ rfl rfl rfl rfl) rfl rfl ?_
 intro w2 hE2 hs2 hB2
 try simp only[go_sem]
 refine hK _ _ ?_;clear hK hgd;clear K;try clear gd
 rw[hs1]at hB2
 simp only[hs1]
 have hR2:=(h.extx hE1).extx hE2
 refine go trivial ?_
 refine rc trivial (zeI hR2 16) ?_
 rintro _ w3 ⟨rfl,hE3⟩
 have hmany:zfC 16 ws.length=true:=by
  unfold zfC
  rw[if_pos (by decide),decide_eq_true (by omega),decide_eq_true (by omega)]
  rfl
 rw[hmany]
 have d1:decide ((16:Int)=1)=false:=rfl
 have d2:decide ((16:Int)=28)=false:=rfl
 have d3:decide ((16:Int)=16)=true:=rfl
 refine rgo (an3 d1 d2 d3) ?_
 have hR3:=hR2.extx hE3
 have hs3:=hE3.size
 have hB3:=Ext.at hE3 hB2
 obtain⟨P,hP⟩:∃P,w.heap.size+1=P:=⟨_,rfl⟩
 rw[hP]at hB3 ⊢
 have hP3:P<w3.heap.size:=(Array.getElem?_eq_some_iff.1 hB3).1
 refine zav (Q:=fun e' σ' ds' v'=>e'= .exit 5∧ds'=[]∧(σ' 4= .pointer (some ⟨w.heap.size,0,Option.none⟩)∧σ' 5= .pointer (some ⟨P,0,Option.none⟩))∧Rdr W0 v' b [] ov (zfN e ws)∧Keep (fun i=>i=b∨i=P) w3 v'∧∃tv,v'.heap[P]? =some (.cells [vi 16,.slice Option.none 0 0,.slice Option.none 0 0,tv,.slice Option.none 0 0].toArray 33 (0,0))∧Own w3.heap.size v' 9 tv ((ws.map fun x=>untT x.1).map vs)) ?_ ?_
 ·refine zaF (fun m σ ds v=>ds=[]∧∃j,j+m=ws.length∧(σ 0= .pointer (some ⟨b,0,Option.none⟩)∧σ 4= .pointer (some ⟨w.heap.size,0,Option.none⟩)∧σ 5= .pointer (some ⟨P,0,Option.none⟩))∧Rdr W0 v b (ws.drop j) ov (zfN e (ws.take j))∧Keep (fun i=>i=b∨i=P) w3 v∧∃tv,v.heap[P]? =some (.cells [vi 16,.slice Option.none 0 0,.slice Option.none 0 0,tv,.slice Option.none 0 0].toArray 33 (0,0))∧Own w3.heap.size v 9 tv (((ws.take j).map fun x=>untT x.1).map vs)) ws.length ?_ ?_
  ·exact⟨rfl,0,by omega,⟨vr0,vr0,vr0⟩,hR3,Keep.refl _ _,_,hB3,Own.nil _ _ _⟩
  rintro m σ ds v ⟨rfl,j,hjm,⟨s0,s4,s5⟩,hR,hk,tv,hBP,hown⟩
  obtain⟨wv,hb,hr⟩:=hR.at'
  obtain⟨aw,cw,rfl,_,_⟩:=hr.open
  have c0:zad v (some ⟨b,0,Option.none⟩)=some (.slice aw (ws.drop j).length cw):=zaa hb rfl
  by_cases hj:j<ws.length
  ·have g1:decide ((0:Int)<((ws.drop j).length:Int))=true:=decide_eq_true (by rw[List.length_drop];omega)
   obtain⟨⟨u,q⟩,hu⟩:∃x,ws[j]=x:=⟨_,rfl⟩
   have hul:=hx (u,q) (hu▸List.getElem_mem hj)
   have hR':=hR
   rw[List.drop_eq_getElem_cons hj,hu]at hR'
   have q3:zad v (some ⟨P,3,Option.none⟩)=some tv:=zaJ (j:=3) hBP rfl
   have hPv:P<v.heap.size:=(Array.getElem?_eq_some_iff.1 hBP).1
   have hlt:=hR.lt
   have hkv:=hk.size
   refine go (an6 s0 s4 s5 c0 g1 (Nat.add_zero 0)) ?_
   refine za4 (fun i=>i==7) [(0,true),(1,true),(2,true),(3,false),(4,false),(5,false),(6,true),(7,false)] ((fun i=>i=b∨some i=tv.ownBlock)) mixed (by kernel_rfl) ?_;intro gd K x hgd hx hxe hK;have hx0:=za5 hxe;clear hxe
   have q3x:=zab hx0 q3
   have hsx:=hx0.size
   simp (disch:=first|omega|assumption|rfl) only[go_sem,s0,s5,q3x,Nat.zero_add]
   refine⟨fun a ha hb'=>by cases ha;rcases hb' with hb'|hb';(· dsimp only at hb';omega);(· have:=(hown.ge hb').1;dsimp only at this;omega),?_⟩
   refine Fn.mono (text_ok (hR'.extx hx0) (by rw[List.length_drop];omega) hul) ?_
   rintro _ y1 ⟨rfl,hR1,hk1⟩
   refine⟨.inr (hk1.mono fun i _ h=> .inl h),?_⟩
   simp (disch:=first|omega|assumption|rfl) only[go_sem]
   refine zaK (z:=vs []) rfl rfl rfl rfl rfl ?_
   intro y2 hy2 hys2 hyo
   refine⟨.inr hy2.keep,?_⟩
   simp (disch:=first|omega|assumption|rfl) only[go_sem]
   have hsy1:=hk1.size
   have hsy2:=hy2.size
   have hownx:Own w3.heap.size y2 9 tv (((ws.take j).map fun x=>untT x.1).map vs):=((hown.ext hx0).keep hk1 fun i hi hs=>by have:=(hown.ge hi).1;omega).ext hy2
   refine zaG (e:=9) hownx hyo.row rfl rfl rfl rfl rfl rfl (vr0) (vr0) (fun q hq=>by simp at hq;subst hq;rfl) (by simp;omega) (by decide) (by omega) ?_
   intro sv' y3 hown3 hX3 hK3 hb3'
   refine⟨.inr (hK3.mono fun i _ h=> .inr h),?_⟩
   simp (disch:=first|omega|assumption|rfl) only[go_sem,s5,Nat.zero_add]
   have hsK:=hK3.size
   have hBP3:y3.heap[P]? =_:=(hK3.block P (by omega) (fun h=>by have:=(hown.ge h).1;omega)).trans ((hy2.block P (by omega) (fun h=>h)).trans ((hk1.block P (by omega) (by omega)).trans (Ext.at hx0 hBP)))
   refine zci (P:=Tryz.prog) (t:=23) (j:=3) (u:=sv') hBP3 (by simp) (by obtain⟨a,c,rfl⟩:=hown3.slice;rfl) rfl rfl ?_
   intro z hzs hBz hkz
   refine⟨.inl rfl,?_⟩
   simp (disch:=first|omega|assumption|rfl) only[go_sem]
   refine hK _ _ ?_;clear hK hgd;clear K;try clear gd
   simp only[List.set_cons_zero,List.set_cons_succ]at hBz
   refine go (an3 s0 s4 s5) ?_
   have hR2':Rdr W0 y2 b (ws.drop (j+1)) ov (zaQ (zfN e (ws.take j)) (errT u)):=hR1.extx hy2
   refine⟨m - 1,by omega,rfl,j+1,by omega,⟨(vq1 s0),(vq1 s4),(vq1 s5)⟩,?_,?_,sv',hBz,?_⟩
   ·rw[zak hj,hu]
    unfold zfN at hR2' ⊢
    rw[List.foldl_append]
    exact(hR2'.keep hK3 fun i hi=>by have:=(hown.ge hi).1;omega).keep hkz fun i hi=>by omega
   ·have ha:Keep (fun i=>i=b∨i=P) w3 y2:=((hk.trans (hx0.mono fun _ _ h=>h.elim)).trans (hk1.mono fun _ _ h=> .inl h)).trans (hy2.mono fun _ _ h=>h.elim)
    exact(ha.own hK3 fun i hi h=>by have:=(hown.ge h).1;omega).trans (hkz.mono fun _ _ h=> .inr h)
   ·rw[zak hj,hu,List.map_append,List.map_append]
    exact hown3.keep hkz fun i hi hs=>by have:=(hown3.ge hi).1;omega
  ·have g1:decide ((0:Int)<((ws.drop j).length:Int))=false:=decide_eq_false (by rw[List.length_drop];omega)
   refine go (an6 s0 s4 s5 c0 g1 (Nat.add_zero 0)) ?_
   rw[List.drop_of_length_le (by omega)]at hR
   rw[List.take_of_length_le (by omega)]at hR hown
   exact⟨rfl,rfl,⟨(vq1 s4),(vq1 s5)⟩,hR,hk,tv,hBP,hown⟩
 rintro _ σ1 _ w4 ⟨rfl,rfl,⟨s4,s5⟩,hR4,hk4,tv,hB4,hown⟩
 obtain⟨ra,rc',htv⟩:=hown.slice
 have hs4:=hk4.size
 have q5:=zam (n:=5) hB4 rfl
 refine go (an2 s4 s5) ?_
 refine rq ?_;intro gd K hgd hK
 try simp (disch:=first|omega|assumption|rfl) only[go_sem,s4,s5,q5]
 have hA4:w4.heap[w.heap.size]? =_:=(hk4.block _ (by omega) (by omega)).trans (Ext.at (hE2.trans hE3) hA)
 refine zaW (P:=Tryz.prog) (t:=33) (l:=[vi 16,.slice Option.none 0 0,.slice Option.none 0 0,tv,.slice Option.none 0 0]) hA4 rfl (zcz _ _ _ _ _ rfl rfl (by rw[htv];rfl) rfl) rfl rfl ?_
 intro w6 hs6 hB6 hk6
 try simp only[go_sem]
 refine hK _ _ ?_;clear hK hgd;clear K;try clear gd
 refine go trivial ?_
 refine zag (.inr rfl) Tryz.ntmps106 rfl (zaL (x:=⟨w.heap.size,0,Option.none⟩) (k:=5) ((vr1 s4)) rfl rfl (zam hB6 rfl) zae) ?_
 have hE13:=(hE1.trans hE2).trans hE3
 refine⟨⟨tv,rfl,(hown.keep hk6 fun i hi hs=>by have:=(hown.ge hi).1;omega).mono (by omega)⟩,hR4.keep hk6 fun i hi=>by omega,?_⟩
 exact(((hE13.mono fun _ _ h=>h.elim):Keep (fun i=>i=b) w w3).own hk4 fun i hi h=>by omega).own hk6 fun i hi h=>by omega
section
variable {P : Program} {d : Option Tmp} {ty : TypeId} {ps : String} {af : Array Edge} {g : Option (Nat × Bool)} {ρ : Operand → Value} {w : World} {K : Value → World → Prop}
end
set_option maxRecDepth 100000
theorem zer{P:Program}{w:World}{K:Value→World→Prop}{t e:TypeId}{n:Nat}{parts:List (Nat×Value)}{arr:Array Value}(h:bsC P t n parts=some (e,arr))
  (hk:∀w1,Ext w w1→w1.heap.size=w.heap.size+1→w1.heap[w.heap.size]? =some (.cells arr e (0,0))→K (.slice (some ⟨w.heap.size,0,Option.none⟩) n n) w1):bsL P t n parts w K .mk:=by
 unfold bsL bsK
 rw[h]
 exact hk _ (Ext.alloc w _) (zau w _) (zat w _)
theorem zbW(w:World):NamesAt w (.slice Option.none 0 0) []:=⟨[],(Own.nil 0 w 0).row,rfl,fun i h=>absurd h (by simp)⟩
theorem zgA{w:World}{nv sv:Value}{n:Nm}(h1:Row w sv [nv])(h2:Row w nv (n.map vs)):NamesAt w sv [n]:=⟨[nv],h1,rfl,fun i h h'=>by
 have h0:i=0:=by simp at h;omega
 subst h0
 exact h2⟩
section
variable {α : Type} {cf : α → α → Int} {jn : α → α → α}
end
section
variable {H : Type} {enc : TypeId × Value → H} {P : Program} {w : World} {base : Nat} {sp : Nat → Bool} {held : Bool}
def RdC(enc:TypeId×Value→H)(P:Program)(w:World)(base:Nat)(sp:Nat→Bool)(held:Bool)(t:TypeId)(cs:List Value):Prop:=∃n x,DataW.trod enc P w base sp held n t cs=some x∧∀k∈x.1.weights P t,k≤reachBytes
theorem RdC.one{t:TypeId}{v:Value}(h:RdC enc P w base sp held t [v]):Rd enc P w base sp held t v:=h
theorem Rd.c{t:TypeId}{v:Value}(h:Rd enc P w base sp held t v):RdC enc P w base sp held t [v]:=h
theorem rd_field{e:TypeId}{fs:Array Field}{cs:List Value}(h:RdC enc P w base sp held e cs)(he:P.underlying e=some (.struct fs)):cs.length=P.cellsOf e∧∀(i:Nat) (f:Field),fs[i]? =some f→RdC enc P w base sp held f.type ((cs.drop f.offset).take (P.cellsOf f.type)):=by
 obtain⟨n,x,h,hw⟩:=h
 obtain⟨xs,m,_,rfl,hl,hxl,hf⟩:=DataW.trod_struct he h
 refine⟨hl,fun i f hfi=>?_⟩
 have hi:i<fs.size:=(Array.getElem?_eq_some_iff.1 hfi).1
 have h1:=hf i f hfi
 rw[List.getElem?_eq_getElem (by omega)]at h1
 refine⟨m,_,h1,fun k hk=>hw k ?_⟩
 simp only[DataW.weights,he]
 refine DataW.weights_mem_each (ts:=fs.toList.map (·.type)) (ds:=xs.map (·.1)) (j:=i) (t:=f.type) (d:=xs[i].1) ?_ ?_ k hk
 ·rw[List.getElem?_map]
  rw[show fs.toList[i]? =some f from by simpa using hfi];rfl
 ·rw[List.getElem?_map,List.getElem?_eq_getElem (by omega)];rfl
theorem rd_int{t:TypeId}{k:IntKind}{cs:List Value}(h:RdC enc P w base sp held t cs)(ht:P.underlying t=some (.int k)):∃n,cs=[.int k n]∧(Lit.int k n).wf=true:=by
 obtain⟨n,x,h,_⟩:=h
 obtain⟨m,h1,_,h2⟩:=DataW.trod_int ht h
 exact⟨m,h1,h2⟩
end
theorem rdc_of{H:Type}{enc:TypeId×Value→H}{P:Program}{w:World}{base:Nat}{sp:Nat→Bool}{held:Bool}{t:TypeId}{cs:Array Value}{d:DataW H}{p:List MemPlace}{ts:List TypeId}{ds:List (DataW H)}(h:DataW.Trod enc P w base sp held t (.agg cs) d p)
  (hw:∀x∈DataW.weightsEach P ts ds,x≤reachBytes) {j:Nat} (ht:ts[j]? =some t) (hd:ds[j]? =some d):RdC enc P w base sp held t cs.toList:=by
 obtain⟨n,h⟩:=h
 exact⟨n,_,h,fun k hk=>hw k (DataW.weights_mem_each ht hd k hk)⟩
def NumsD(d:DatL):Prop:=(∀n∈d.nums,0≤n∧n≤4294967295)∧ -9223372036854775808≤d.ty∧d.ty≤9223372036854775807
section
variable {H : Type} {enc : TypeId × Value → H} {P : Program} {w : World} {base : Nat} {sp : Nat → Bool} {held : Bool}
theorem ze7{t e:TypeId}{k:IntKind}{v:Value}(h:Rd enc P w base sp held t v)(ht:P.underlying t=some (.slice e))(hc:P.cellsOf e=1)(he:P.underlying e=some (.int k)):∃l:List Int,Row w v (l.map (.int k))∧∀n∈l,(Lit.int k n).wf=true:=by
 obtain⟨vals,hr,hall,_⟩:=zdO h ht hc
 obtain⟨m,rfl,hm⟩:=zeJ (f:=fun n=>Value.int k n) (Q:=fun n=>(Lit.int k n).wf=true) (fun u hu=>by
  obtain⟨n,h1,h2⟩:=rd_int (hall u hu).c he
  exact⟨n,by simpa using h1,h2⟩)
 exact⟨m,hr,hm⟩
theorem wf_u326{n:Int}(h:(Lit.int .u32 n).wf=true):0≤n∧n≤4294967295:=by
 simp[Lit.wf,IntKind.min,IntKind.max,IntKind.signed,IntKind.bits]at h
 omega
theorem wf_u86{n:Int}(h:(Lit.int .u8 n).wf=true):0≤n∧n≤255:=by
 simp[Lit.wf,IntKind.min,IntKind.max,IntKind.signed,IntKind.bits]at h
 omega
theorem zg4{l:List Int}(h:∀n∈l,(Lit.int .u8 n).wf=true):∃m:List UInt8,l.map (Value.int .u8)=m.map zal:=by
 induction l with
 |nil=>exact⟨[],rfl⟩
 |cons n l ih=>
  obtain⟨m,hm⟩:=ih (fun x hx=>h x (List.mem_cons_of_mem _ hx))
  have hb:=wf_u86 (h n (List.mem_cons_self ..))
  obtain⟨k,rfl⟩:∃k:Nat,n=(k:Int):=⟨n.toNat,by omega⟩
  exact⟨UInt8.ofNat k::m,by rw[List.map_cons,List.map_cons,hm,zbg (by omega)]⟩
end
section
variable {H : Type} {enc : TypeId × Value → H} {w : World} {base : Nat} {sp : Nat → Bool} {held : Bool}
theorem wf_i64{n:Int}(h:(Lit.int .i64 n).wf=true): -9223372036854775808≤n∧n≤9223372036854775807:=by simpa [Lit.wf,IntKind.min,IntKind.max,IntKind.signed,IntKind.bits] using h
theorem rd_dataN{cs:List Value}(h:RdC enc Tryz.prog w base sp held 33 cs):∃d:DatL,DatAt w cs d∧NumsD d:=by
 obtain⟨hl,hf⟩:=rd_field h rfl
 have hl5:cs.length=5:=hl
 match cs,hl5 with
 | [c0,c1,c2,c3,c4],_=>
  obtain⟨ty,e0,et⟩:=rd_int (hf 0 _ rfl) rfl
  obtain⟨names,n1,_⟩:=rd_names (P:=Tryz.prog) (ts:=24) (tb:=9) (RdC.one (hf 1 _ rfl)) rfl rfl rfl rfl rfl rfl
  obtain⟨nums,n2,n3⟩:=ze7 (RdC.one (hf 2 _ rfl)) rfl rfl rfl
  obtain⟨texts,n4,_⟩:=zgn (P:=Tryz.prog) (RdC.one (hf 3 _ rfl)) (e:=9) rfl rfl rfl rfl
  obtain⟨raw,n5,n6⟩:=ze7 (RdC.one (hf 4 _ rfl)) rfl rfl rfl
  obtain⟨rb,hrb⟩:=zg4 n6
  rw[hrb]at n5
  have e0':c0=vi ty:=List.head_eq_of_cons_eq (show [c0]=[vi ty] from e0)
  exact⟨⟨ty,names,nums,texts,rb⟩,⟨c1,c2,c3,c4,by rw[e0'],n1,n2,n4,n5⟩,fun n hn=>wf_u326 (n3 n hn),wf_i64 et⟩
end
set_option maxRecDepth 10000
theorem DatAt.cells{w0:World}{cs:List Value}{d:DatL}(h:DatAt w0 cs d):∃nm,cs[0]? =some (vi d.ty)∧cs[1]? =some nm∧NamesAt w0 nm d.names:=by
 obtain⟨nm,nu,tx,rw',rfl,h1,_⟩:=h.ex
 exact⟨nm,rfl,rfl,h1⟩
theorem zcP(w:World)(nv:Value)(n:Nm)(hn:Row w nv (n.map vs))(hl:∀l∈n,l.length≤1000000)(hnl:n.length≤1000):
  Fn Tryz.prog 91 #[nv] w (fun v w'=>v=vs (zbc n)∧Ext w w'):=by
 obtain⟨an,cn,rfl,hcn,hgn⟩:=hn
 simp only[List.length_map]at hcn hgn
 rw[List.length_map]
 refine enter Tryz.func91 Tryz.ntmps91 rfl rfl ?_
 repeat refine c_r ?_
 refine rg0 ?_
 repeat refine c_r ?_
 refine rg0 ?_
 repeat refine c_r ?_
 refine wc0 ?_ ?_
 ·intro h0
  simp only[decide_eq_true_eq]at h0
  have hn0:n=[]:=List.length_eq_zero_iff.1 (by omega)
  repeat (first|refine c_r ?_|refine rg0 ?_)
  refine rt0 Tryz.ntmps91 ?_
  exact⟨by unfold zbc;rw[if_pos hn0],Keep.refl _ _⟩
 intro h0
 simp only[decide_eq_false_iff_not]at h0
 have hn0:n≠ []:=fun h=>h0 (by rw[h];rfl)
 repeat refine c_r ?_
 refine rg0 ?_
 repeat refine c_r ?_
 refine rg0 ?_
 repeat refine c_r ?_
 refine zaF (fun m σ ds A=>ds=[]∧∃(i:Nat),i+m=n.length∧σ 4=vi i∧σ 0= .slice an n.length cn∧σ 3=vs ((n.take i).flatMap fun l=>zaH l++ [46])∧Ext w A) n.length ?_ ?_
 ·exact⟨rfl,0,by omega,vr0,vq0,vr0,Keep.refl _ _⟩
 rintro m σ ds A ⟨rfl,i,him,h4,h0',h3,hEA⟩
 repeat refine c_r ?_
 refine rg2 h4 h0' ?_
 repeat refine c_r ?_
 refine wc0 ?_ ?_
 ·intro hlt
  simp only[decide_eq_true_eq]at hlt
  have hi:i<n.length:=by omega
  have hi0:(0:Int)≤(i:Int):=by omega
  have hi1:(i:Int)<(n.length:Int):=by omega
  have hi1':(i:Int)+1=((i+1:Nat):Int):=by push_cast;rfl
  have hg:=zab hEA (hgn i (by simpa using hi))
  rw[List.getElem_map]at hg
  obtain⟨l,hle⟩:∃l,n[i]=l:=⟨_,rfl⟩
  rw[hle]at hg
  have hmem:l∈n:=hle▸List.getElem_mem hi
  obtain⟨xn,rfl⟩:=Option.isSome_iff_exists.1 (zaf hg)
  have hpl:((n.take i).flatMap fun l=>zaH l++ [46]).length≤5000000000:=by
   have h1:=zc4 (n.take i)
   have:∀(k:Nm),(∀l∈k,l.length≤1000000)→(k.map List.length).sum≤1000000*k.length:=fun k=>by
    induction k with
    |nil=>intro _;simp
    |cons x k ih=>
     intro h
     have h3:=ih (fun l hl=>h l (List.mem_cons_of_mem _ hl))
     have h4:=h x (List.mem_cons_self ..)
     rw[List.map_cons,List.sum_cons,List.length_cons];omega
   have h3:=this (n.take i) (fun l hl'=>hl l (List.mem_of_mem_take hl'))
   rw[List.length_take]at h1 h3;omega
  have htl:=zbk l
  have hll:=hl l hmem
  have a1:((n.take i).flatMap fun l=>zaH l++ [46]).length+(zaH l).length≤9223372036854775807:=by omega
  have a2:(((n.take i).flatMap fun l=>zaH l++ [46])++zaH l).length+([46]:List UInt8).length≤9223372036854775807:=by rw[List.length_append,List.length_singleton];omega
  repeat refine c_r ?_
  refine rq ?_;intro gd K hgd hK
  try simp (disch:=first|omega|assumption|rfl) only[go_sem,h0',h3,h4,hi0,hi1,hg]
  refine Fn.mono (zd6 A l (by omega)) ?_
  rintro _ A1 ⟨rfl,hE2⟩
  simp (disch:=first|assumption|omega) only[go_sem]
  refine hK _ _ ?_;clear hK hgd;clear K;try clear gd
  repeat refine c_r ?_
  refine rg2 h4 hi1' ?_
  repeat refine c_r ?_
  refine⟨m - 1,by omega,rfl,i+1,by omega,vq0,(vq1 h0'),?_,hEA.trans hE2⟩
  rw[zak hi,List.flatMap_append,hle]
  simp only[go_sem]
  simp
 ·intro hge
  simp only[decide_eq_false_iff_not]at hge
  rw[List.take_of_length_le (by omega)]at h3
  repeat refine c_r ?_
  refine rg1 h3 ?_
  repeat refine c_r ?_
  refine rt1 h3 Tryz.ntmps91 ?_
  exact⟨by unfold zbc;rw[if_neg hn0],hEA⟩
section
variable {P : Program} {d : Option Tmp} {ty : TypeId} {ps : String} {af : Array Edge} {g : Option (Nat × Bool)} {ρ : Operand → Value} {w : World} {K : Value → World → Prop}
end
theorem Row.low{D:Nat}{w x:World}{v:Value}{l:List Value}{S:Nat→Prop}(h:Row w v l)(hlow:∀a n c,v= .slice (some a) n c→a.block<D)(hk:Keep S w x)(hS:∀b,b<D→¬S b)(hD:D≤w.heap.size):Row x v l:=
 h.blocks fun a n c hv=>hk.block _ (by have:=hlow a n c hv;omega) (hS _ (hlow a n c hv))
theorem zgB{y:Addr}{n:Nat}(h:y.block<n):offS (zbS n) (some y):=fun a ha hb=>by
 cases ha
 unfold zbS at hb
 exact absurd (show n≤y.block from hb) (by omega)
theorem zbs(b:Bool):zao undef b=false:=nr rfl
structure DatF(d:DatL):Prop where
 names:∀n∈d.names,(∀l∈n,l.length≤1000000000)∧n.length≤1000000000
 nn:d.names.length≤1000000000
 nu:d.nums.length≤1000000000
 nt:d.texts.length≤1000000000
 tl:∀l∈d.texts,l.length≤1000000000
 nr:d.raw.length≤1000000000
 n8:d.names.length≤8
 f4:d.nums.length≤12∧d.texts.length≤40∧(∀l∈d.texts,l.length≤300)∧d.raw.length≤1100∧∀n∈d.names,few n=true
structure DatX(w0:World)(B:Nat)(A:World)(nm:Value)(cs:List Value)(d:DatL):Prop where
 ex:∃nu tx rw vals,cs=[vi d.ty,nm,nu,tx,rw]∧Row A nm vals∧vals.length=d.names.length∧(∀i (h:i<vals.length) (h':i<d.names.length),Row w0 vals[i] (d.names[i].map vs))∧Row w0 nu (d.nums.map v32)∧Row w0 tx (d.texts.map vs)∧Row w0 rw (d.raw.map zal)
 blk:BlkB B A nm
theorem DatX.at{w0 A:World}{B:Nat}{nm:Value}{cs:List Value}{d:DatL}(h:DatX w0 B A nm cs d)(hE:Ext w0 A):DatAt A cs d:=by
 obtain⟨nu,tx,rw,vals,e,h1,h2,h3,h4,h5,h6⟩:=h.ex
 exact⟨nm,nu,tx,rw,e,⟨vals,h1,h2,fun i a b=>(h3 i a b).ext hE⟩,h4.ext hE,h5.ext hE,h6.ext hE⟩
theorem DatX.keep{w0 A x:World}{B:Nat}{nm:Value}{cs:List Value}{d:DatL}(h:DatX w0 B A nm cs d){S:Nat→Prop}(hk:Keep S A x)(hS:∀a n c,nm= .slice (some a) n c→¬S a.block):DatX w0 B x nm cs d:=by
 obtain⟨nu,tx,rw,vals,e,h1,h2,h3,h4,h5,h6⟩:=h.ex
 exact⟨⟨nu,tx,rw,vals,e,h1.blocks fun a n c hv=>hk.block _ (h.blk a n c hv).2 (hS a n c hv),h2,h3,h4,h5,h6⟩,h.blk.ext hk.size⟩
theorem DatX.mono{w0 A:World}{B B':Nat}{nm:Value}{cs:List Value}{d:DatL}(h:DatX w0 B A nm cs d)(hB:B'≤B):DatX w0 B' A nm cs d:=⟨h.ex,h.blk.mono hB⟩
theorem DOf_ok{w0 w:World}(hE0:Ext w0 w){cs:List Value}{d:DatL}(hd:DatAt w0 cs d)(hnn:d.names.length≤1000000000):
  Fn Tryz.prog 31 #[.agg cs.toArray] w (fun v w'=>Ext w w'∧∃cs' nm,v= .agg cs'.toArray∧DatX w0 w.heap.size w' nm cs' d):=by
 obtain⟨nm,nu,tx,rw',rfl,⟨vals,⟨an,cn,rfl,hcn,hgn⟩,hvl,hvr⟩,hnu,htx,hrw⟩:=hd.ex
 obtain⟨au,cu,rfl,_⟩:=id hnu
 obtain⟨at1,ct,rfl,_⟩:=id htx
 obtain⟨ar,cr,rfl,_⟩:=id hrw
 refine enter Tryz.func31 Tryz.ntmps31 rfl rfl ?_
 repeat refine c_r ?_
 refine rg0 ?_
 repeat refine c_r ?_
 rw[zau]
 refine zcZ ?_
 intro w1 hE1 hs1 hA hC
 have p0:zad w1 (some ⟨w.heap.size,0,Option.none⟩)=some (vi d.ty):=zaa hA rfl
 have p1:zad w1 (some ⟨w.heap.size,1,Option.none⟩)=some (.slice an vals.length cn):=zaa hA rfl
 have p2:zad w1 (some ⟨w.heap.size,2,Option.none⟩)=some (.slice au (d.nums.map v32).length cu):=zaa hA rfl
 have p3:zad w1 (some ⟨w.heap.size,3,Option.none⟩)=some (.slice at1 (d.texts.map vs).length ct):=zaa hA rfl
 have p4:zad w1 (some ⟨w.heap.size,4,Option.none⟩)=some (.slice ar (d.raw.map zal).length cr):=zaa hA rfl
 refine rq ?_;intro gd K hgd hK
 try simp (disch:=first|omega|assumption|rfl) only[go_sem,p0,p2,p3,p4,Nat.add_zero,Nat.zero_add]
 refine⟨by kernel_rfl,?_⟩
 rw[show bdV Tryz.prog 67 [(0,vi d.ty),(2,.slice au (d.nums.map v32).length cu),(3,.slice at1 (d.texts.map vs).length ct),(4,.slice ar (d.raw.map zal).length cr)]=some (.agg #[vi d.ty,.slice Option.none 0 0,.slice au (d.nums.map v32).length cu,.slice at1 (d.texts.map vs).length ct,.slice ar (d.raw.map zal).length cr]) from by kernel_rfl]
 try simp only[go_sem]
 have hB3:=zat w1 (.cells #[vi 0,.slice Option.none 0 0,.slice Option.none 0 0,.slice Option.none 0 0,.slice Option.none 0 0] 67 (0,0))
 have hE4:=Ext.alloc w1 (.cells #[vi 0,.slice Option.none 0 0,.slice Option.none 0 0,.slice Option.none 0 0,.slice Option.none 0 0] 67 (0,0))
 have hs4:=zau w1 (.cells #[vi 0,.slice Option.none 0 0,.slice Option.none 0 0,.slice Option.none 0 0,.slice Option.none 0 0] 67 (0,0))
 revert hB3 hE4 hs4
 generalize w1.alloc (.cells #[vi 0,.slice Option.none 0 0,.slice Option.none 0 0,.slice Option.none 0 0,.slice Option.none 0 0] 67 (0,0))=w2
 intro hB3 hE4 hs4
 refine zaW (P:=Tryz.prog) (t:=67) (l:=[vi d.ty,.slice Option.none 0 0,.slice au (d.nums.map v32).length cu,.slice at1 (d.texts.map vs).length ct,.slice ar (d.raw.map zal).length cr]) hB3 rfl (fun v h=>by simp at h;rcases h with rfl|rfl|rfl|rfl|rfl<;>rfl) rfl rfl ?_
 intro w3 hs5 hB5 hk5
 try simp only[go_sem]
 refine hK _ _ ?_;clear hK hgd;clear K;try clear gd
 have hE13:Ext w1 w3:=Keep.to_ext hE4 rfl (fun b hb=>by omega) hk5
 obtain⟨b3,hb3⟩:∃b3,w1.heap.size=b3:=⟨_,rfl⟩
 rw[hb3]at hB5
 have hs3:w3.heap.size=b3+1:=by omega
 repeat refine c_r ?_
 refine rg0 ?_
 repeat refine c_r ?_
 rw[hb3]
 refine zaF (fun m σ ds A=>ds=[]∧∃(i:Nat) (nv:Value),i+m=vals.length∧σ 4=vi i∧σ 1= .pointer (some ⟨w.heap.size,0,Option.none⟩)∧σ 2= .pointer (some ⟨w.heap.size+1,0,Option.none⟩)∧σ 3= .pointer (some ⟨b3,0,Option.none⟩)∧A.heap[b3]? =some (.cells [vi d.ty,nv,.slice au (d.nums.map v32).length cu,.slice at1 (d.texts.map vs).length ct,.slice ar (d.raw.map zal).length cr].toArray 67 (0,0))∧Own w3.heap.size A 23 nv (vals.take i)∧Ext w1 A∧w3.heap.size≤A.heap.size) vals.length ?_ ?_
 ·exact⟨rfl,0,.slice Option.none 0 0,by omega,vr0,vq0,vq0,vq0,hB5,Own.nil _ _ _,hE13,Nat.le_refl _⟩
 rintro m σ ds A ⟨rfl,i,nv,him,h4,h1,h2,h3,hb,hown,hEA,hsA⟩
 have q1:=zab hEA p1
 have s1:=hE1.size
 repeat refine c_r ?_
 refine rg4 h4 h1 q1 Nat.zero_add ?_
 repeat refine c_r ?_
 refine wc0 ?_ ?_
 ·intro hlt
  simp only[decide_eq_true_eq]at hlt
  have hi:i<vals.length:=by omega
  have hi0:(0:Int)≤(i:Int):=by omega
  have hi1:(i:Int)<(vals.length:Int):=by omega
  have hi1':(i:Int)+1=((i+1:Nat):Int):=by push_cast;rfl
  have hgi:=hgn i hi
  obtain⟨xN,rfl⟩:=Option.isSome_iff_exists.1 (zaf hgi)
  obtain⟨xi,hxi⟩:∃xi,adr (some xN) i=some xi:=⟨_,rfl⟩
  rw[hxi]at hgi
  have hgA:=zab (hE0.trans (hE1.trans hEA)) hgi
  have hxb:xi.block<w3.heap.size:=by
   have:=zcD (show w0.cell? xi=some _ from hgi)
   have:=(hE0.trans (hE1.trans hE13)).size
   omega
  have hrow:=hvr i hi (by omega)
  obtain⟨hv,hhv⟩:∃hv,vals[i]=hv:=⟨_,rfl⟩
  rw[hhv]at hgA hrow
  obtain⟨ha,hc,hve,_⟩:=id hrow
  have hone:one hv=true:=by rw[hve];rfl
  have htk:vals.take (i+1)=vals.take i++ [hv]:=by rw[zak hi,hhv]
  have hnv:zad A (some ⟨b3,1,Option.none⟩)=some nv:=zaJ hb rfl
  have hvals:(vals.take i).length≤1000000000:=by rw[List.length_take];omega
  repeat refine c_r ?_
  refine za4 (fun i=>i==10) [(0,true),(1,true),(2,true),(3,true),(4,true),(5,true),(6,true),(7,false),(8,false),(9,true),(10,false)] (zbS w3.heap.size) mixed (by kernel_rfl) ?_;intro gd K x hgd hx hxe hK;have hx0:=za5 hxe;clear hxe
  have hgx:=zab hx0 hgA
  have hnx:=zab hx0 hnv
  have q1x:=zab hx0 q1
  have hxs:=hx.size
  simp (disch:=first|omega|assumption|rfl) only[go_sem,h4,h1,h3,q1x,hgx,hnx,hi0,hi1,hxi,Nat.zero_add,Nat.mul_one]
  refine⟨zaP (by omega),zaP (by omega),zgB hxb,?_⟩
  refine zaK (z:= .slice Option.none 0 0) (v:=hv) (by rfl) (by rfl) (by rfl) (by rfl) (by rw[hve];rfl) ?_
  intro w5 hE5 hs5 ho5
  refine⟨.inr hE5.keep,?_⟩
  simp (disch:=first|omega|assumption|rfl) only[go_sem]
  have hx5:=hx0.trans hE5
  have hx5s:=hx5.size
  refine zaG (hown.ext hx5) ho5.row rfl rfl rfl rfl rfl rfl (vr0) (vr0) (fun q hq=>by rw[List.mem_singleton.1 hq];exact hone) (by rw[List.length_singleton];omega) (by decide) (by omega) ?_
  intro v7 w7 ho7 hE7 hk7 hb7
  refine⟨.inr (hk7.mono fun b _ hb=>by have:=(hown.ge hb).1;show _≤_;omega),?_⟩
  simp (disch:=first|omega|assumption|rfl) only[go_sem,h3]
  have hk7s:=hk7.size
  obtain⟨a7,c7,hv7⟩:=ho7.slice
  have hb3w:w7.heap[b3]? =some (.cells [vi d.ty,nv,.slice au (d.nums.map v32).length cu,.slice at1 (d.texts.map vs).length ct,.slice ar (d.raw.map zal).length cr].toArray 67 (0,0)):=(hk7.block b3 (by omega) (fun h=>by have:=(hown.ge h).1;omega)).trans (Ext.at hx5 hb)
  refine zci (P:=Tryz.prog) (t:=65) (j:=1) (l:=[vi d.ty,nv,.slice au (d.nums.map v32).length cu,.slice at1 (d.texts.map vs).length ct,.slice ar (d.raw.map zal).length cr]) hb3w (by simp) (by rw[hv7];rfl) rfl rfl ?_
  intro z hz' hbz hkz
  refine⟨.inl rfl,?_⟩
  simp (disch:=first|omega|assumption|rfl) only[go_sem]
  refine hK _ _ ?_;clear hK hgd;clear K;try clear gd
  have hEz:Ext w1 z:=Keep.to_ext (hE7 w1 (hEA.trans hx5) (by omega)) rfl (fun b hb=>by omega) hkz
  repeat refine c_r ?_
  refine rg2 h4 hi1' ?_
  repeat refine c_r ?_
  exact⟨m - 1,by omega,rfl,i+1,v7,by omega,vq0,(vq1 h1),(vq1 h2),(vq1 h3),hbz,by rw[htk];exact ho7.keep hkz (fun b hb h=>by have:=(ho7.ge hb).1;omega),hEz,by omega⟩
 ·intro hge
  simp only[decide_eq_false_iff_not]at hge
  have hi:i=vals.length:=by omega
  rw[hi,List.take_length]at hown
  obtain⟨na,nc,hnv⟩:=hown.slice
  repeat refine c_r ?_
  refine rq ?_;intro gd K hgd hK
  have d5:=zam (n:=5) hb rfl
  try simp (disch:=first|omega|assumption|rfl) only[go_sem,h3,h2,d5]
  refine zaW (P:=Tryz.prog) (t:=67) (l:=[vi d.ty,nv,.slice au (d.nums.map v32).length cu,.slice at1 (d.texts.map vs).length ct,.slice ar (d.raw.map zal).length cr]) (Ext.at hEA hC) rfl (fun v h=>by
   simp at h
   rcases h with rfl|rfl|rfl|rfl|rfl
   ·rfl
   ·rw[hnv];rfl
   ·rfl
   ·rfl
   ·rfl) rfl rfl ?_
  intro z hz' hbz hkz
  try simp only[go_sem]
  refine hK _ _ ?_;clear hK hgd;clear K;try clear gd
  repeat refine c_r ?_
  refine zag (.inr rfl) Tryz.ntmps31 rfl (zaL (x:=⟨w.heap.size+1,0,Option.none⟩) (k:=5) ((vq1 h2)) rfl rfl (zam hbz rfl) zae) ?_
  have hEz:Ext w z:=Keep.to_ext (hE1.trans hEA) rfl (fun b hb=>by omega) hkz
  have hownz:=hown.keep hkz (fun b hb h=>by have:=(hown.ge hb).1;omega)
  refine⟨hEz,_,nv,rfl,⟨⟨_,_,_,vals,rfl,hownz.row,hvl,hvr,hnu,htx,hrw⟩,fun a n c hv=>?_⟩⟩
  have:=hownz.ge (b:=a.block) (by rw[hv];rfl)
  omega
theorem few_f{n:Nm}(h:few n=true):(∀l∈n,l.length≤1000000000)∧n.length≤1000000000:=by
 simp only[few,Bool.and_eq_true,List.all_eq_true,decide_eq_true_eq]at h
 exact⟨fun l hl=>by have:=h.2 l hl;omega,by omega⟩
theorem DFew_ok{w0 w:World}(hE0:Ext w0 w){cs:List Value}{d:DatL}(hd:DatAt w0 cs d):
  Fn Tryz.prog 29 #[.agg cs.toArray] w (fun v w'=>Ext w w'∧∃b:Bool,v= .bool b∧(b=true→DatF d)):=by
 obtain⟨nm,nu,tx,rw',rfl,⟨vals,⟨an,cn,rfl,hcn,hgn⟩,hvl,hvr⟩,⟨au,cu,rfl,hcu,hgu⟩,⟨at1,ct,rfl,hct,hgt⟩,⟨ar,cr,rfl,hcr,hgr⟩⟩:=hd.ex
 simp only[List.length_map]at hcu hgu hct hgt hcr hgr
 simp only[List.length_map]
 refine enter Tryz.func29 Tryz.ntmps29 rfl rfl ?_
 repeat refine c_r ?_
 refine rg0 ?_
 repeat refine c_r ?_
 refine zan ?_
 intro w1 hE1 hs1 hA
 have p1:zad w1 (some ⟨w.heap.size,1,Option.none⟩)=some (.slice an vals.length cn):=zaa hA rfl
 have p2:zad w1 (some ⟨w.heap.size,2,Option.none⟩)=some (.slice au d.nums.length cu):=zaa hA rfl
 have p3:zad w1 (some ⟨w.heap.size,3,Option.none⟩)=some (.slice at1 d.texts.length ct):=zaa hA rfl
 have p4:zad w1 (some ⟨w.heap.size,4,Option.none⟩)=some (.slice ar d.raw.length cr):=zaa hA rfl
 refine zav (Q:=fun e σ' ds' v'=>e= .normal∧ds'=[]∧σ' 1= .pointer (some ⟨w.heap.size,0,Option.none⟩)∧v'=w1∧∃bb,σ' 26= .bool bb∧(bb=false→vals.length≤8∧d.nums.length≤12∧d.texts.length≤40∧d.raw.length≤1100)) ?_ ?_
 ·by_cases hA1:(vals.length:Int)>8
  ·refine rq ?_;intro gd K hgd hK
   have hg4:∀n σ b,zaw gd n σ (some (4,b))=zao (ev n σ (.tmp 9)) b:=(fun n σ b=>by rw[zai,show gd 4=some 9 from(by rw[hgd];rfl)];rfl);have hg10:∀n σ b,zaw gd n σ (some (10,b))=zao (ev n σ (.tmp 15)) b:=(fun n σ b=>by rw[zai,show gd 10=some 15 from(by rw[hgd];rfl)];rfl);have hg16:∀n σ b,zaw gd n σ (some (16,b))=zao (ev n σ (.tmp 21)) b:=(fun n σ b=>by rw[zai,show gd 16=some 21 from(by rw[hgd];rfl)];rfl)
   try simp (disch:=first|omega|assumption|rfl) only[go_sem,p1,Nat.zero_add,decide_eq_true hA1,zbs,↓hg4,↓hg10,↓hg16]
   refine hK _ _ ?_;clear hK hgd;clear K;try clear gd
   exact⟨rfl,rfl,vq0,rfl,_,vr0,fun h=>by cases h⟩
  by_cases hA2:(d.nums.length:Int)>12
  ·refine rq ?_;intro gd K hgd hK
   have hg4:∀n σ b,zaw gd n σ (some (4,b))=zao (ev n σ (.tmp 9)) b:=(fun n σ b=>by rw[zai,show gd 4=some 9 from(by rw[hgd];rfl)];rfl);have hg10:∀n σ b,zaw gd n σ (some (10,b))=zao (ev n σ (.tmp 15)) b:=(fun n σ b=>by rw[zai,show gd 10=some 15 from(by rw[hgd];rfl)];rfl);have hg16:∀n σ b,zaw gd n σ (some (16,b))=zao (ev n σ (.tmp 21)) b:=(fun n σ b=>by rw[zai,show gd 16=some 21 from(by rw[hgd];rfl)];rfl)
   try simp (disch:=first|omega|assumption|rfl) only[go_sem,p1,p2,Nat.zero_add,decide_eq_false hA1,decide_eq_true hA2,zbs,↓hg4,↓hg10,↓hg16]
   refine hK _ _ ?_;clear hK hgd;clear K;try clear gd
   exact⟨rfl,rfl,vq0,rfl,_,vr0,fun h=>by cases h⟩
  by_cases hA3:(d.texts.length:Int)>40
  ·refine rq ?_;intro gd K hgd hK
   have hg4:∀n σ b,zaw gd n σ (some (4,b))=zao (ev n σ (.tmp 9)) b:=(fun n σ b=>by rw[zai,show gd 4=some 9 from(by rw[hgd];rfl)];rfl);have hg10:∀n σ b,zaw gd n σ (some (10,b))=zao (ev n σ (.tmp 15)) b:=(fun n σ b=>by rw[zai,show gd 10=some 15 from(by rw[hgd];rfl)];rfl);have hg16:∀n σ b,zaw gd n σ (some (16,b))=zao (ev n σ (.tmp 21)) b:=(fun n σ b=>by rw[zai,show gd 16=some 21 from(by rw[hgd];rfl)];rfl)
   try simp (disch:=first|omega|assumption|rfl) only[go_sem,p1,p2,p3,Nat.zero_add,decide_eq_false hA1,decide_eq_false hA2,decide_eq_true hA3,zbs,↓hg4,↓hg10,↓hg16]
   refine hK _ _ ?_;clear hK hgd;clear K;try clear gd
   exact⟨rfl,rfl,vq0,rfl,_,vr0,fun h=>by cases h⟩
  by_cases hA4:(d.raw.length:Int)>1100
  ·refine rq ?_;intro gd K hgd hK
   have hg4:∀n σ b,zaw gd n σ (some (4,b))=zao (ev n σ (.tmp 9)) b:=(fun n σ b=>by rw[zai,show gd 4=some 9 from(by rw[hgd];rfl)];rfl);have hg10:∀n σ b,zaw gd n σ (some (10,b))=zao (ev n σ (.tmp 15)) b:=(fun n σ b=>by rw[zai,show gd 10=some 15 from(by rw[hgd];rfl)];rfl);have hg16:∀n σ b,zaw gd n σ (some (16,b))=zao (ev n σ (.tmp 21)) b:=(fun n σ b=>by rw[zai,show gd 16=some 21 from(by rw[hgd];rfl)];rfl)
   try simp (disch:=first|omega|assumption|rfl) only[go_sem,p1,p2,p3,p4,Nat.zero_add,decide_eq_false hA1,decide_eq_false hA2,decide_eq_false hA3,decide_eq_true hA4,zbs,↓hg4,↓hg10,↓hg16]
   refine hK _ _ ?_;clear hK hgd;clear K;try clear gd
   exact⟨rfl,rfl,vq0,rfl,_,vr0,fun h=>by cases h⟩
  ·refine rq ?_;intro gd K hgd hK
   have hg4:∀n σ b,zaw gd n σ (some (4,b))=zao (ev n σ (.tmp 9)) b:=(fun n σ b=>by rw[zai,show gd 4=some 9 from(by rw[hgd];rfl)];rfl);have hg10:∀n σ b,zaw gd n σ (some (10,b))=zao (ev n σ (.tmp 15)) b:=(fun n σ b=>by rw[zai,show gd 10=some 15 from(by rw[hgd];rfl)];rfl);have hg16:∀n σ b,zaw gd n σ (some (16,b))=zao (ev n σ (.tmp 21)) b:=(fun n σ b=>by rw[zai,show gd 16=some 21 from(by rw[hgd];rfl)];rfl)
   try simp (disch:=first|omega|assumption|rfl) only[go_sem,p1,p2,p3,p4,Nat.zero_add,decide_eq_false hA1,decide_eq_false hA2,decide_eq_false hA3,decide_eq_false hA4,zbs,↓hg4,↓hg10,↓hg16]
   refine hK _ _ ?_;clear hK hgd;clear K;try clear gd
   exact⟨rfl,rfl,vq0,rfl,_,vr0,fun _=>⟨by omega,by omega,by omega,by omega⟩⟩
 rintro _ σ1 _ v1 ⟨rfl,rfl,h1,hv1,bb,h26,hbb⟩
 rw[hv1]
 clear hv1 v1
 repeat refine c_r ?_
 refine zb9 (t:=bb) ((vq1 h26)) ?_ ?_
 ·intro _
  repeat (first|refine c_r ?_|refine rg0 ?_)
  refine rt0 Tryz.ntmps29 ?_
  exact⟨hE1,false,rfl,fun h=>by cases h⟩
 intro hb
 obtain⟨ln,lu,lt,lr⟩:=hbb hb
 repeat refine c_r ?_
 refine rg0 ?_
 repeat refine c_r ?_
 refine zav (Q:=fun e σ' ds' v'=>ds'=[]∧Ext w1 v'∧((e= .exit 0∧σ' 1= .pointer (some ⟨w.heap.size,0,Option.none⟩)∧∀n∈d.names,few n=true)∨(e= .ret∧σ' 2= .bool false))) ?_ ?_
 ·refine zaF (fun m σ ds A=>ds=[]∧∃(i:Nat),i+m=vals.length∧σ 3=vi i∧σ 1= .pointer (some ⟨w.heap.size,0,Option.none⟩)∧Ext w1 A∧∀j (h:j<d.names.length),j<i→few d.names[j]=true) vals.length ?_ ?_
  ·exact⟨rfl,0,by omega,vr0,(vq1 h1),Keep.refl _ _,fun j h hj=>absurd hj (by omega)⟩
  clear h1
  rintro m σ ds A ⟨rfl,i,him,h3,h1,hEA,hlow⟩
  have q1:=zab hEA p1
  repeat refine c_r ?_
  refine rg4 h3 h1 q1 Nat.zero_add ?_
  repeat refine c_r ?_
  refine wc0 ?_ ?_
  ·intro hlt
   simp only[decide_eq_true_eq]at hlt
   have hi:i<vals.length:=by omega
   have hi0:(0:Int)≤(i:Int):=by omega
   have hi1:(i:Int)<(vals.length:Int):=by omega
   have hi1':(i:Int)+1=((i+1:Nat):Int):=by push_cast;rfl
   have hgi:=hgn i hi
   obtain⟨xN,rfl⟩:=Option.isSome_iff_exists.1 (zaf hgi)
   have hgi':=zab (hE0.trans (hE1.trans hEA)) hgi
   have hrow:=hvr i hi (by omega)
   obtain⟨n,hn⟩:∃n,d.names[i]'(by omega)=n:=⟨_,rfl⟩
   rw[hn]at hrow
   obtain⟨hv,hhv⟩:∃hv,vals[i]=hv:=⟨_,rfl⟩
   rw[hhv]at hgi' hrow
   repeat refine c_r ?_
   refine rq ?_;intro gd K hgd hK
   try simp (disch:=first|omega|assumption|rfl) only[go_sem,h3,h1,q1,Nat.zero_add,hi0,hi1,hgi']
   refine Fn.mono (Few_ok A hv n (hrow.ext (hE0.trans (hE1.trans hEA)))) ?_
   rintro _ A2 ⟨rfl,hA2⟩
   try simp only[go_sem]
   refine hK _ _ ?_;clear hK hgd;clear K;try clear gd
   repeat refine c_r ?_
   refine zb9 (t:=!few n) (vr0) ?_ ?_
   ·intro _
    repeat refine c_r ?_
    refine rg0 ?_
    repeat refine c_r ?_
    exact⟨rfl,hEA.trans hA2,.inr ⟨rfl,vq0⟩⟩
   ·intro hfn
    repeat refine c_r ?_
    refine rg2 h3 hi1' ?_
    repeat refine c_r ?_
    refine⟨m - 1,by omega,rfl,i+1,by omega,vq0,(vq1 h1),hEA.trans hA2,fun j hj hji=>?_⟩
    by_cases hj2:j=i
    ·subst hj2;rw[hn];simpa using hfn
    ·exact hlow j hj (by omega)
  ·intro hge
   simp only[decide_eq_false_iff_not]at hge
   repeat refine c_r ?_
   refine⟨rfl,hEA,.inl ⟨rfl,(vq1 h1),fun n hn=>?_⟩⟩
   obtain⟨j,hj,rfl⟩:=List.getElem_of_mem hn
   exact hlow j hj (by omega)
 clear h1
 rintro e σ4 _ A ⟨rfl,hEA,⟨rfl,h1,hall⟩| ⟨rfl,h2⟩⟩
 rotate_left
 ·repeat refine c_r ?_
  refine rt1 h2 Tryz.ntmps29 ?_
  exact⟨hE1.trans hEA,false,rfl,fun h=>by cases h⟩
 have q3:=zab hEA p3
 repeat refine c_r ?_
 refine rg0 ?_
 repeat refine c_r ?_
 refine zav (Q:=fun e σ' ds' v'=>ds'=[]∧v'=A∧((e= .exit 2∧σ' 1= .pointer (some ⟨w.heap.size,0,Option.none⟩)∧∀l∈d.texts,l.length≤300)∨(e= .ret∧σ' 2= .bool false))) ?_ ?_
 ·refine zaF (fun m σ ds B=>ds=[]∧∃(i:Nat),i+m=d.texts.length∧σ 4=vi i∧σ 1= .pointer (some ⟨w.heap.size,0,Option.none⟩)∧B=A∧∀j (h:j<d.texts.length),j<i→d.texts[j].length≤300) d.texts.length ?_ ?_
  ·exact⟨rfl,0,by omega,vr0,(vq1 h1),rfl,fun j h hj=>absurd hj (by omega)⟩
  clear h1
  rintro m σ ds B ⟨rfl,i,him,h4,h1,hB2,hlow⟩
  rw[hB2]
  clear hB2 B
  repeat refine c_r ?_
  refine rg4 h4 h1 q3 Nat.zero_add ?_
  repeat refine c_r ?_
  refine wc0 ?_ ?_
  ·intro hlt
   simp only[decide_eq_true_eq]at hlt
   have hi:i<d.texts.length:=by omega
   have hi0:(0:Int)≤(i:Int):=by omega
   have hi1:(i:Int)<(d.texts.length:Int):=by omega
   have hi1':(i:Int)+1=((i+1:Nat):Int):=by push_cast;rfl
   have hgi:=hgt i hi
   obtain⟨xT,rfl⟩:=Option.isSome_iff_exists.1 (zaf hgi)
   have hgi':=zab (hE0.trans (hE1.trans hEA)) hgi
   rw[List.getElem_map]at hgi'
   repeat refine c_r ?_
   refine rg7 h4 h1 q3 Nat.zero_add hi0 hi1 hgi' ?_
   repeat refine c_r ?_
   refine wc0 ?_ ?_
   ·intro hgt2
    repeat refine c_r ?_
    refine rg0 ?_
    repeat refine c_r ?_
    exact⟨rfl,rfl,.inr ⟨rfl,vq0⟩⟩
   ·intro hgt2
    simp only[decide_eq_false_iff_not]at hgt2
    repeat refine c_r ?_
    refine rg2 h4 hi1' ?_
    repeat refine c_r ?_
    refine⟨m - 1,by omega,rfl,i+1,by omega,vq0,(vq1 h1),rfl,fun j hj hji=>?_⟩
    by_cases hj2:j=i
    ·subst hj2;omega
    ·exact hlow j hj (by omega)
  ·intro hge
   simp only[decide_eq_false_iff_not]at hge
   repeat refine c_r ?_
   refine⟨rfl,rfl,.inl ⟨rfl,(vq1 h1),fun l hl=>?_⟩⟩
   obtain⟨j,hj,rfl⟩:=List.getElem_of_mem hl
   exact hlow j hj (by omega)
 clear h1
 rintro e σ6 _ v1 ⟨rfl,hv1,⟨rfl,h1,htl⟩| ⟨rfl,h2⟩⟩
 rotate_left
 ·rw[hv1]
  repeat refine c_r ?_
  refine rt1 h2 Tryz.ntmps29 ?_
  exact⟨hE1.trans hEA,false,rfl,fun h=>by cases h⟩
 rw[hv1]
 clear hv1 v1
 repeat (first|refine c_r ?_|refine rg0 ?_)
 refine rt0 Tryz.ntmps29 ?_
 exact⟨hE1.trans hEA,true,rfl,fun _=>⟨fun n hn=>few_f (hall n hn),by omega,by omega,by omega,fun l hl=>by have:=htl l hl;omega,by omega,by omega,⟨by omega,by omega,htl,by omega,hall⟩⟩⟩
def Hz(S:Nat→Prop)(A:World)(P:World→Prop):Prop:=∀X,Keep S A X→P X
theorem Hz.now{S:Nat→Prop}{A:World}{P:World→Prop}(h:Hz S A P):P A:=h A (Keep.refl _ _)
theorem few_T{n:Nm}(h:few n=true):NmT n:=by
 simp only[few,Bool.and_eq_true,List.all_eq_true,decide_eq_true_eq]at h
 exact⟨fun l hl=>by have:=h.2 l hl;omega,by omega⟩
theorem fold_T{n:Nm}(h:NmT n):NmT (zbm n):=by
 refine⟨fun l hl=>?_,by unfold zbm;rw[List.length_map];exact h.2⟩
 unfold zbm at hl
 obtain⟨x,hx,rfl⟩:=List.mem_map.1 hl
 have:=h.1 x hx
 simpa [zbF] using this
section
variable {P : Program} {d : Option Tmp} {ty : TypeId} {ps : String} {af : Array Edge} {g : Option (Nat × Bool)} {ρ : Operand → Value} {w : World} {K : Value → World → Prop}
theorem op_field{s:TypeId}{x:Operand}{f:Nat}{fs:Array Field}{fd:Field}{cs:Array Value}{v:Value}(hs:P.underlying s=some (.struct fs))(hf:fs[f]? =some fd)(ha:tyA P fd.type=false)(hu:(P.underlying fd.type).isSome=true)
  (hx:ρ x= .agg cs) (hv:cs[fd.offset]? =some v) (h:K v w):opV P ⟨d,.field s x f,ty,ps,af,g⟩ ρ w K:=by
 show opW P _ ρ w K
 refine zar (s:=Instr.field s (ρ x) f) (w':=w) (v:=v) ?_ h
 obtain⟨u,hu⟩:=Option.isSome_iff_exists.1 hu
 have hi:(isAgg fd.type).run P w= .ok false w:=by
  unfold tyA at ha
  rw[hu]at ha
  cases u<;>first| (cases ha;done)|simp[isAgg,underlying,program,Sem.run,hu]
 have hp:(part fd.type cs fd.offset).run P w= .ok v w:=by
  unfold part
  simp only[Sem.run_bind,hi,Result.andThen_ok,Bool.false_eq_true,if_false,hv,Sem.run_pure]
 unfold Instr.field
 simp[underlying,program,Sem.run,hs,hf,hx,asAgg]
 exact hp
end
theorem own15_ok{W0 w:World}{b:Nat}{t1 t2:Lab}{q1 q2:Bool}{ov:Value}{o:Nm}{e e1 e2:Int}(hW:WX W0)(h:Rdr W0 w b [(t1,q1),(t2,q2)] ov e)(hl1:t1.length≤1000000)(hl2:t2.length≤1000000)(ho:Row W0 ov (o.map vs))(hoT:NmT o)
  (he1:zaQ (if q1=true then zaQ e 2 else e) (decP 65535 t1).2=e1) (he2:zaQ (if q2=true then zaQ e1 2 else e1) (zcA t2 o).2=e2):
  Fn Tryz.prog 106 #[.pointer (some ⟨b,0,Option.none⟩),vi 15] w (fun v w'=>(∃nmv nuv nv,v= .agg #[vi 15,nmv,nuv,.slice Option.none 0 0,.slice Option.none 0 0]∧Own w.heap.size w' 28 nuv [v32 (decP 65535 t1).1]∧Own w.heap.size w' 24 nmv [nv]∧Row w' nv ((zcA t2 o).1.map vs)∧BlkB w.heap.size w' nv)∧Rdr W0 w' b [] ov e2∧Keep (fun i=>i=b) w w'):=by
 have hbl:=h.lt
 have hlow:=h.low
 refine enter Tryz.func106 Tryz.ntmps106 rfl rfl ?_
 refine go trivial ?_
 refine zan ?_
 intro w1 hE1 hs1 hA
 refine rq ?_;intro gd K hgd hK
 try simp only[go_sem]
 refine⟨by kernel_rfl,?_⟩
 rw[show bdV Tryz.prog 33 [(0,vi 15)]=some (.agg #[vi 15,.slice Option.none 0 0,.slice Option.none 0 0,.slice Option.none 0 0,.slice Option.none 0 0]) from by kernel_rfl]
 try simp only[go_sem]
 refine zbv (P:=Tryz.prog) (l:=[vi 15,.slice Option.none 0 0,.slice Option.none 0 0,.slice Option.none 0 0,.slice Option.none 0 0]) rfl (zcz _ _ _ _ _ rfl rfl rfl rfl) rfl rfl ?_
 intro w2 hE2 hs2 hB2
 try simp only[go_sem]
 refine hK _ _ ?_;clear hK hgd;clear K;try clear gd
 rw[hs1]at hB2
 simp only[hs1]
 have hR2:=(h.extx hE1).extx hE2
 refine go trivial ?_
 refine rc trivial (zeI hR2 15) ?_
 rintro _ w3 ⟨rfl,hE3⟩
 rw[show zfC 15 ([(t1,q1),(t2,q2)]:List (Lab×Bool)).length=true from rfl]
 have d1:decide ((15:Int)=1)=false:=rfl
 have d2:decide ((15:Int)=28)=false:=rfl
 have d3:decide ((15:Int)=16)=false:=rfl
 have d4:decide ((15:Int)=15)=true:=rfl
 refine rgo (an4 d1 d2 d3 d4) ?_
 have hR3:=hR2.extx hE3
 have hs3:=hE3.size
 have hB3:=Ext.at hE3 hB2
 obtain⟨P,hP⟩:∃P,w.heap.size+1=P:=⟨_,rfl⟩
 rw[hP]at hB3 ⊢
 have hP3:P<w3.heap.size:=(Array.getElem?_eq_some_iff.1 hB3).1
 have q3:zad w3 (some ⟨P,2,Option.none⟩)=some (.slice Option.none 0 0):=zaJ (j:=2) hB3 rfl
 have hdl:=zeQ 65535 t1
 refine zav (Q:=fun e' σ' ds' v'=>e'= .normal∧ds'=[]∧(σ' 0= .pointer (some ⟨b,0,Option.none⟩)∧σ' 4= .pointer (some ⟨w.heap.size,0,Option.none⟩)∧σ' 5= .pointer (some ⟨P,0,Option.none⟩))∧Rdr W0 v' b [(t2,q2)] ov e1∧Keep (fun i=>i=b∨i=P) w3 v'∧∃nuv,v'.heap[P]? =some (.cells [vi 15,.slice Option.none 0 0,nuv,.slice Option.none 0 0,.slice Option.none 0 0].toArray 33 (0,0))∧Own w3.heap.size v' 28 nuv [v32 (decP 65535 t1).1]) ?_ ?_
 ·refine za4 (fun i=>i==7) [(0,true),(1,true),(2,true),(3,false),(4,false),(5,false),(6,true),(7,false)] ((fun i=>i=b)) mixed (by kernel_rfl) ?_;intro gd K x hgd hx hxe hK;have hx0:=za5 hxe;clear hxe
  have q3x:=zab hx0 q3
  have hsx:=hx0.size
  simp (disch:=first|omega|assumption|rfl) only[go_sem,q3x,Nat.zero_add]
  refine⟨fun a ha hb'=>by cases ha;dsimp only at hb';omega,?_⟩
  refine Fn.mono (num_ok hW (hR3.extx hx0) (by simp) (by omega) 65535 (by decide)) ?_
  rw[he1]
  rintro _ y1 ⟨rfl,hR1,hk1⟩
  refine⟨.inr hk1,?_⟩
  simp (disch:=first|omega|assumption|rfl) only[go_sem]
  refine zaK (z:=v32 0) rfl rfl rfl rfl rfl ?_
  intro y2 hy2 hys2 hyo
  refine⟨.inr hy2.keep,?_⟩
  simp (disch:=first|omega|assumption|rfl) only[go_sem]
  have hsy1:=hk1.size
  have hsy2:=hy2.size
  refine zaG (B:=w3.heap.size) (e:=28) (Own.nil _ _ _) hyo.row rfl rfl rfl rfl rfl rfl (vr0) (vr0) (fun q hq=>by rw[List.mem_singleton.1 hq];rfl) (by simp) (by decide) (by omega) ?_
  intro sv' y3 hown3 hX3 hK3 hb3'
  refine⟨.inr (hK3.mono fun i _ h=>by cases h),?_⟩
  simp (disch:=first|omega|assumption|rfl) only[go_sem,Nat.zero_add]
  have hsK:=hK3.size
  have hBP3:y3.heap[P]? =_:=(hK3.block P (by omega) (fun h=>by cases h)).trans ((hy2.block P (by omega) (fun h=>h)).trans ((hk1.block P (by omega) (by omega)).trans (Ext.at hx0 hB3)))
  refine zci (P:=Tryz.prog) (t:=30) (j:=2) (u:=sv') hBP3 (by simp) (by obtain⟨a,c,rfl⟩:=hown3.slice;rfl) rfl rfl ?_
  intro z hzs hBz hkz
  refine⟨.inl rfl,?_⟩
  simp (disch:=first|omega|assumption|rfl) only[go_sem]
  refine hK _ _ ?_;clear hK hgd;clear K;try clear gd
  simp only[List.set_cons_zero,List.set_cons_succ]at hBz
  have ha:Keep (fun i=>i=b∨i=P) w3 y2:=((hx0.mono fun _ _ h=>h.elim).trans (hk1.mono fun _ _ h=> .inl h)).trans (hy2.mono fun _ _ h=>h.elim)
  exact⟨rfl,rfl,⟨vr0,vr0,vr0⟩,((hR1.extx hy2).keep hK3 fun i hi=>by cases hi).keep hkz fun i hi=>by omega,(ha.own hK3 fun i hi h=>by cases h).trans (hkz.mono fun _ _ h=> .inr h),sv',hBz,hown3.keep hkz fun i hi hs=>by have:=(hown3.ge hi).1;omega⟩
 rintro _ σ1 _ w4 ⟨rfl,rfl,⟨s0,s4,s5⟩,hR4,hk4,nuv,hB4,hnu⟩
 have hs4:=hk4.size
 obtain⟨na,nc,hnuv⟩:=hnu.slice
 have q4:zad w4 (some ⟨P,1,Option.none⟩)=some (.slice Option.none 0 0):=zaJ (j:=1) hB4 rfl
 refine go (an3 s0 s4 s5) ?_
 refine zav (Q:=fun e' σ' ds' v'=>e'= .normal∧ds'=[]∧(σ' 4= .pointer (some ⟨w.heap.size,0,Option.none⟩)∧σ' 5= .pointer (some ⟨P,0,Option.none⟩))∧Rdr W0 v' b [] ov e2∧Keep (fun i=>i=b∨i=P) w4 v'∧∃nmv nv,v'.heap[P]? =some (.cells [vi 15,nmv,nuv,.slice Option.none 0 0,.slice Option.none 0 0].toArray 33 (0,0))∧Own w4.heap.size v' 24 nmv [nv]∧Row v' nv ((zcA t2 o).1.map vs)∧BlkB w4.heap.size v' nv∧one nv=true) ?_ ?_
 ·refine za4 (fun i=>i==7) [(0,true),(1,true),(2,true),(3,false),(4,false),(5,false),(6,true),(7,false)] ((fun i=>i=b)) mixed (by kernel_rfl) ?_;intro gd K x hgd hx hxe hK;have hx0:=za5 hxe;clear hxe
  have q4x:=zab hx0 q4
  have hsx:=hx0.size
  simp (disch:=first|omega|assumption|rfl) only[go_sem,s0,s5,q4x,Nat.zero_add]
  refine⟨fun a ha hb'=>by cases ha;dsimp only at hb';omega,?_⟩
  refine Fn.mono (name_ok (hR4.extx hx0) (by simp) (by omega) ho hoT) ?_
  rw[he2]
  rintro nv y1 ⟨hrow,hbk,hR1,hk1⟩
  refine⟨.inr hk1,?_⟩
  obtain⟨nva,nvc,hnve,_⟩:=id hrow
  simp (disch:=first|omega|assumption|rfl) only[go_sem]
  refine zaK (z:= .slice Option.none 0 0) (v:=nv) rfl rfl rfl rfl (by rw[hnve];rfl) ?_
  intro y2 hy2 hys2 hyo
  refine⟨.inr hy2.keep,?_⟩
  simp (disch:=first|omega|assumption|rfl) only[go_sem]
  have hsy1:=hk1.size
  have hsy2:=hy2.size
  refine zaG (B:=w4.heap.size) (e:=24) (Own.nil _ _ _) hyo.row rfl rfl rfl rfl rfl rfl (vr0) (vr0) (fun q hq=>by rw[List.mem_singleton.1 hq,hnve];rfl) (by simp) (by decide) (by omega) ?_
  intro sv' y3 hown3 hX3 hK3 hb3'
  refine⟨.inr (hK3.mono fun i _ h=>by cases h),?_⟩
  simp (disch:=first|omega|assumption|rfl) only[go_sem,s5,Nat.zero_add]
  have hsK:=hK3.size
  have hBP3:y3.heap[P]? =_:=(hK3.block P (by omega) (fun h=>by cases h)).trans ((hy2.block P (by omega) (fun h=>h)).trans ((hk1.block P (by omega) (by omega)).trans (Ext.at hx0 hB4)))
  refine zci (P:=Tryz.prog) (t:=29) (j:=1) (u:=sv') hBP3 (by simp) (by obtain⟨a,c,rfl⟩:=hown3.slice;rfl) rfl rfl ?_
  intro z hzs hBz hkz
  refine⟨.inl rfl,?_⟩
  simp (disch:=first|omega|assumption|rfl) only[go_sem]
  refine hK _ _ ?_;clear hK hgd;clear K;try clear gd
  simp only[List.set_cons_zero,List.set_cons_succ]at hBz
  have ha:Keep (fun i=>i=b∨i=P) w4 y2:=((hx0.mono fun _ _ h=>h.elim).trans (hk1.mono fun _ _ h=> .inl h)).trans (hy2.mono fun _ _ h=>h.elim)
  have hrz:Row z nv ((zcA t2 o).1.map vs):=by
   refine Row.blocks (w:=y3) (Row.blocks (w:=y2) (hrow.ext hy2) fun a n' c hv=>?_) fun a n' c hv=>?_
   ·have h2:=hbk a n' c hv
    exact hK3.block _ (by omega) (fun hh=>by cases hh)
   ·have h2:=hbk a n' c hv
    exact hkz.block _ (by omega) (by omega)
  refine⟨rfl,rfl,⟨(vq1 s4),(vq1 s5)⟩,((hR1.extx hy2).keep hK3 fun i hi=>by cases hi).keep hkz fun i hi=>by omega,(ha.own hK3 fun i hi h=>by cases h).trans (hkz.mono fun _ _ h=> .inr h),sv',nv,hBz,hown3.keep hkz fun i hi hs=>by have:=(hown3.ge hi).1;omega,hrz,fun a n' c hv=>?_,by rw[hnve];rfl⟩
  have h2:=hbk a n' c hv
  omega
 clear s0 s4 s5
 rintro _ σ2 _ w5 ⟨rfl,rfl,⟨s4,s5⟩,hR5,hk5,nmv,nv,hB5,hnm,hnr,hnb,hn1⟩
 obtain⟨ma,mc,hnmv⟩:=hnm.slice
 have hs5:=hk5.size
 have q5:=zam (n:=5) hB5 rfl
 refine go (an2 s4 s5) ?_
 refine rq ?_;intro gd K hgd hK
 try simp (disch:=first|omega|assumption|rfl) only[go_sem,s4,s5,q5]
 have hA5:w5.heap[w.heap.size]? =_:=(hk5.block _ (by omega) (by omega)).trans ((hk4.block _ (by omega) (by omega)).trans (Ext.at (hE2.trans hE3) hA))
 refine zaW (P:=Tryz.prog) (t:=33) (l:=[vi 15,nmv,nuv,.slice Option.none 0 0,.slice Option.none 0 0]) hA5 rfl (zcz _ _ _ _ _ (by rw[hnmv];rfl) (by rw[hnuv];rfl) rfl rfl) rfl rfl ?_
 intro w6 hs6 hB6 hk6
 try simp only[go_sem]
 refine hK _ _ ?_;clear hK hgd;clear K;try clear gd
 refine go trivial ?_
 refine zag (.inr rfl) Tryz.ntmps106 rfl (zaL (x:=⟨w.heap.size,0,Option.none⟩) (k:=5) ((vr1 s4)) rfl rfl (zam hB6 rfl) zae) ?_
 have hE13:=(hE1.trans hE2).trans hE3
 refine⟨⟨nmv,nuv,nv,rfl,((hnu.keep hk5 fun i hi hs=>by have:=hnu.ge hi;omega).keep hk6 fun i hi hs=>by have:=hnu.ge hi;omega).mono (by omega),(hnm.keep hk6 fun i hi hs=>by have:=(hnm.ge hi).1;omega).mono (by omega),hnr.blocks fun a n' c hv=>hk6.block _ (hnb a n' c hv).2 (by have:=(hnb a n' c hv).1;omega),(hnb.ext hk6.size).mono (by omega)⟩,hR5.keep hk6 fun i hi=>by omega,?_⟩
 exact((((hE13.mono fun _ _ h=>h.elim):Keep (fun i=>i=b) w w3).own hk4 fun i hi h=>by omega).own hk5 fun i hi h=>by omega).own hk6 fun i hi h=>by omega
theorem zb8(w:World):Row w (.slice Option.none 0 0) []:=(Own.nil 0 w 0).row
def rawD(T:Int)(bs:List UInt8):DatL:=⟨T,[],[],[],bs⟩
theorem raw_at{w:World}{rv:Value}{T:Int}{bs:List UInt8}(h:Row w rv (bs.map zal)):DatAt w [vi T,.slice Option.none 0 0,.slice Option.none 0 0,.slice Option.none 0 0,rv] (rawD T bs):=⟨_,_,_,_,rfl,zbW w,zb8 w,zb8 w,h⟩
theorem raw_T{T:Int}{bs:List UInt8}(h:bs.length≤2000):DatT (rawD T bs):=⟨⟨(fun n hn=>by cases hn),(by simp[rawD]),(by simp[rawD]),(fun n hn=>by cases hn),(by simp[rawD]),(fun n hn=>by cases hn),h⟩,(by simp[rawD])⟩
theorem any_ok{W0 w:World}{b:Nat}{t0 t:Lab}{q0:Bool}{ws:List (Lab×Bool)}{ov:Value}{n:Nat}{bs:List UInt8}(hW:WX W0)(h:Rdr W0 w b ((t0,q0)::(t,false)::ws) ov 0)(T:Int)(hT:(zas T).2.2.2≠0)(hl:ws.length≤1000)(ht:t.length≤1000000)(hn:decP 4294967295 t=(n,0))(hn2:n≤1024)(hwq:∀x∈ws,x.2=false∧x.1.length≤1000000)(hs0:catW ws≠ [])(htr:Lib.trimS (catW ws) digs16=[])(hlen:(catW ws).length=2*n)(hp:Pairs (catW ws) bs):
  Fn Tryz.prog 105 #[.pointer (some ⟨b,0,Option.none⟩),vi T] w (fun v w'=>(∃rv,v= .agg #[vi T,.slice Option.none 0 0,.slice Option.none 0 0,.slice Option.none 0 0,rv]∧Own w.heap.size w' 5 rv (bs.map zal))∧Rdr W0 w' b [] ov (zbz (rawD T bs))∧Keep (fun i=>i=b) w w'):=by
 have hbl:=h.lt
 have hlow:=h.low
 obtain⟨wv,hb,hr⟩:=h.at'
 obtain⟨a,c,rfl,hc,hg⟩:=hr.open
 rw[List.length_cons]at hc
 have hdr:=hr.drop (m:=1) (by simp)
 rw[List.drop_one,List.tail_cons,List.length_cons]at hdr
 have l1:(1:Int)≤((((t,false)::ws).length+1:Nat):Int):=by omega
 have l2:(1:Int)≤(c:Int):=by omega
 have hbsl:bs.length=n:=by have:=hp.1;omega
 refine enter Tryz.func105 Tryz.ntmps105 rfl rfl ?_
 refine go trivial ?_
 refine zan ?_
 intro w1 hE1 hs1 hA
 have hb1:=Ext.at hE1 hb
 have c0:zad w1 (some ⟨b,0,Option.none⟩)=some (.slice a (((t,false)::ws).length+1) c):=zaa hb1 rfl
 refine rq ?_;intro gd K hgd hK
 try simp (disch:=first|omega|assumption|rfl) only[go_sem,c0,l1,l2,Nat.zero_add]
 refine zaz (P:=Tryz.prog) rfl rfl rfl hb1 (by simp) (by simp) ?_
 intro w2 hs2 hb2 hk2
 try simp only[go_sem]
 refine hK _ _ ?_;clear hK hgd;clear K;try clear gd
 have hR2:Rdr W0 w2 b ((t,false)::ws) ov 0:=⟨Keep.to_ext (h.ext.trans hE1) rfl (fun i hi=>by omega) hk2,h.low,⟨_,hb2,hdr⟩,h.one⟩
 refine go trivial ?_
 refine rq ?_;intro gd K hgd hK
 try simp only[go_sem]
 refine⟨by kernel_rfl,?_⟩
 rw[show bdV Tryz.prog 33 [(0,vi T)]=some (.agg #[vi T,.slice Option.none 0 0,.slice Option.none 0 0,.slice Option.none 0 0,.slice Option.none 0 0]) from by kernel_rfl]
 try simp only[go_sem]
 refine zbv (P:=Tryz.prog) (l:=[vi T,.slice Option.none 0 0,.slice Option.none 0 0,.slice Option.none 0 0,.slice Option.none 0 0]) rfl (zcz _ _ _ _ _ rfl rfl rfl rfl) rfl rfl ?_
 intro w3 hE3 hs3 hB3
 try simp only[go_sem]
 refine hK _ _ ?_;clear hK hgd;clear K;try clear gd
 have hw2:w2.heap.size=w.heap.size+1:=by omega
 rw[hw2]at hB3
 simp only[hw2]
 have hR3:=hR2.extx hE3
 refine go trivial ?_
 refine rq ?_;intro gd K hgd hK
 try simp only[go_sem]
 refine Fn.mono (of_ok w3 T) ?_
 rintro _ w4 ⟨rfl,hE4⟩
 unfold ze4
 try simp only[go_sem]
 refine op_field (cs:=#[vi (zas T).1,vi (zas T).2.1,vi (zas T).2.2.1,vi (zas T).2.2.2]) rfl rfl rfl rfl (vr0) rfl ?_
 have d1:decide ((zas T).2.2.2=0)=false:=decide_eq_false hT
 try simp (disch:=first|omega|assumption|rfl) only[go_sem,d1]
 refine hK _ _ ?_;clear hK hgd;clear K;try clear gd
 have hR4:=hR3.extx hE4
 obtain⟨wv4,hb4,hr4⟩:=hR4.at'
 obtain⟨a4,k4,rfl,_,_⟩:=hr4.open
 have c4:zad w4 (some ⟨b,0,Option.none⟩)=some (.slice a4 ((t,false)::ws).length k4):=zaa hb4 rfl
 have d2:decide ((((t,false)::ws).length:Int)=0)=false:=decide_eq_false (by rw[List.length_cons];omega)
 refine go (an4 d1 c4 d2 (Nat.zero_add 0)) ?_
 have hs4:=hE4.size
 refine rq ?_;intro gd K hgd hK
 try simp only[go_sem]
 refine Fn.mono (zfA hW hR4 hl ht hn hn2 hwq hs0 htr hlen hp) ?_
 rintro rv w5 ⟨hown,hR5,hk5⟩
 obtain⟨ra,rc',hrv⟩:=hown.slice
 have hs5:=hk5.size
 have hB5:=(hk5.block (w.heap.size+1) (by omega) (by omega)).trans (Ext.at hE4 hB3)
 try simp (disch:=first|omega|assumption|rfl) only[go_sem,Nat.zero_add]
 refine zci (P:=Tryz.prog) (t:=31) (j:=4) (u:=rv) hB5 (by simp) (by rw[hrv];rfl) rfl rfl ?_
 intro w6 hs6 hB6 hk6
 try simp only[go_sem]
 refine hK _ _ ?_;clear hK hgd;clear K;try clear gd
 simp only[List.set_cons_zero,List.set_cons_succ]at hB6
 have hR6:Rdr W0 w6 b [] ov 0:=hR5.keep hk6 fun i hi=>by omega
 have hown6:=hown.keep hk6 fun i hi hs=>by have:=(hown.ge hi).1;omega
 obtain⟨wv6,hb6,_⟩:=hR6.at'
 have c6:zad w6 (some ⟨b,2,Option.none⟩)=some (vi 0):=zaa hb6 rfl
 have q6:=zam (n:=5) hB6 rfl
 have ez:decide ((0:Int)=0)=true:=rfl
 refine go (an3 c6 ez (Nat.zero_add 2)) ?_
 refine rc q6 (zdw (cs:=[vi T,.slice Option.none 0 0,.slice Option.none 0 0,.slice Option.none 0 0,rv]) (raw_at hown6.row) (raw_T (by omega))) ?_
 rintro _ w7 ⟨rfl,hE7⟩
 refine rd trivial (zbL (hR6.extx hE7) (zbz (rawD T bs))) ?_
 rw[show zaQ 0 (zbz (rawD T bs))=zbz (rawD T bs) from rfl]
 rintro _ w8 ⟨hR8,hk8⟩
 have hs7:=hE7.size
 have hs8:=hk8.size
 refine rgo trivial ?_
 have hB8:=(hk8.block (w.heap.size+1) (by omega) (by omega)).trans (Ext.at hE7 hB6)
 have q8:=zam (n:=5) hB8 rfl
 refine rq ?_;intro gd K hgd hK
 try simp (disch:=first|omega|assumption|rfl) only[go_sem,q8]
 have hk36:Keep (fun i=>i=b∨i=w.heap.size+1) w3 w8:=(((hE4.mono fun _ _ h=>h.elim).trans (hk5.mono fun _ _ h=> .inl h)).trans (hk6.mono fun _ _ h=> .inr h)).trans ((hE7.mono fun _ _ h=>h.elim).trans (hk8.mono fun _ _ h=> .inl h))
 have hA8:w8.heap[w.heap.size]? =_:=(hk36.block _ (by omega) (by omega)).trans (Ext.at hE3 ((hk2.block _ (by omega) (by omega)).trans hA))
 refine zaW (P:=Tryz.prog) (t:=33) (l:=[vi T,.slice Option.none 0 0,.slice Option.none 0 0,.slice Option.none 0 0,rv]) hA8 rfl (zcz _ _ _ _ _ rfl rfl rfl (by rw[hrv];rfl)) rfl rfl ?_
 intro w9 hs9 hB9 hk9
 try simp only[go_sem]
 refine hK _ _ ?_;clear hK hgd;clear K;try clear gd
 refine go trivial ?_
 refine zag (.inr rfl) Tryz.ntmps105 rfl (zaL (x:=⟨w.heap.size,0,Option.none⟩) (k:=5) (vr0) rfl rfl (zam hB9 rfl) zae) ?_
 refine⟨⟨rv,rfl,((((hown6.ext hE7).keep hk8 fun i hi hs=>by have:=(hown6.ge hi).1;omega)).keep hk9 fun i hi hs=>by have:=(hown6.ge hi).1;omega).mono (by omega)⟩,hR8.keep hk9 fun i hi=>by omega,?_⟩
 have hk03:Keep (fun i=>i=b) w w3:=((hE1.mono fun _ _ h=>h.elim).trans hk2).trans (hE3.mono fun _ _ h=>h.elim)
 exact(hk03.own hk36 fun i hi h=>by omega).own hk9 fun i hi h=>by omega
section
variable {P : Program} {d : Option Tmp} {ty : TypeId} {ps : String} {af : Array Edge} {g : Option (Nat × Bool)} {ρ : Operand → Value} {w : World} {K : Value → World → Prop}
end
section
variable {P : Program} {d : Option Tmp} {ty : TypeId} {ps : String} {af : Array Edge} {g : Option (Nat × Bool)} {ρ : Operand → Value} {w : World} {K : Value → World → Prop}
theorem ze9{e:TypeId}{cs:Array Value}{i:Nat}{v:Value}(he:(isAgg e).run P w= .ok false w)(hv:cs[i]? =some v):(part e cs i).run P w= .ok v w:=by
 unfold part
 simp only[Sem.run_bind,he,Result.andThen_ok,Bool.false_eq_true,if_false,hv,Sem.run_pure]
theorem eqIn_wd{t:TypeId}{f1 f2:Field}(ht:P.underlying t=some (.struct #[f1,f2]))(h1n:f1.name≠ "_")(h2n:f2.name≠ "_")(o1:f1.offset=0)(o2:f2.offset=1)(hs:P.stoodInHeld t=false)(h1:P.underlying f1.type=some .string)(h2:P.underlying f2.type=some .bool)(n:Nat)(a a':Lab)(b b':Bool):
  (Op.equalIn (n+2) t (.agg #[vs a,.bool b]) (.agg #[vs a',.bool b'])).run P w= .ok (decide ((a,b)=(a',b'))) w:=by
 have k1:(isAgg f1.type).run P w= .ok false w:=by simp[isAgg,underlying,program,Sem.run,h1]
 have k2:(isAgg f2.type).run P w= .ok false w:=by simp[isAgg,underlying,program,Sem.run,h2]
 have p1:∀x y:Value,(part f1.type #[x,y] 0).run P w= .ok x w:=fun _ _=>ze9 k1 rfl
 have p2:∀x y:Value,(part f2.type #[x,y] 1).run P w= .ok y w:=fun _ _=>ze9 k2 rfl
 have q1:∀a a':Lab,(Op.equalIn (n+1) f1.type (vs a) (vs a')).run P w= .ok (decide (a=a')) w:=fun a a'=>by
  have h0:((⟨a.toArray⟩:ByteArray)==⟨a'.toArray⟩)=decide (a=a'):=by
   show ByteArray.beq _ _=_
   unfold ByteArray.beq
   by_cases h:a=a'
   ·subst h;simp
   ·rw[decide_eq_false h]
    simp[h]
  simp[Op.equalIn,underlying,program,Sem.run,h1,vs,h0]
 have q2:∀b b':Bool,(Op.equalIn (n+1) f2.type (.bool b) (.bool b')).run P w= .ok (decide (b=b')) w:=fun b b'=>by
  cases b<;>cases b'<;>simp[Op.equalIn,underlying,program,Sem.run,h2]
 have hu:(underlying t).run P w= .ok (.struct #[f1,f2]) w:=by simp[underlying,program,Sem.run,ht]
 have hp:(program:Sem Program).run P w= .ok P w:=by simp[program,Sem.run]
 rw[Op.equalIn]
 simp only[Sem.run_bind,hu,hp,Result.andThen_ok,hs,Bool.false_eq_true,if_false]
 by_cases c1:a=a'
 ·by_cases c2:b=b'
  ·simp[List.forIn_cons,Sem.run_bind,p1,p2,q1,q2,c1,c2,h1n,h2n,o1,o2]
  ·simp[List.forIn_cons,Sem.run_bind,p1,p2,q1,q2,c1,c2,h1n,h2n,o1,o2]
 ·simp[List.forIn_cons,Sem.run_bind,p1,p2,q1,q2,c1,h1n,h2n,o1,o2]
theorem op_eqS{t yt:TypeId}{x y:Operand}{f1 f2:Field}{a a':Lab}{b b':Bool}(ht:P.underlying t=some (.struct #[f1,f2]))(h1n:f1.name≠ "_")(h2n:f2.name≠ "_")(o1:f1.offset=0)(o2:f2.offset=1)(hs:P.stoodInHeld t=false)(h1:P.underlying f1.type=some .string)(h2:P.underlying f2.type=some .bool)(hg:P.eqGuardType P.depth t=false)
  (hx:ρ x= .agg #[vs a,.bool b]) (hy:ρ y= .agg #[vs a',.bool b']) (h:K (.bool (decide ((a,b)=(a',b')))) w):
  opW P ⟨d,.binOp .eql t x y yt,ty,ps,af,g⟩ ρ w K:=by
 have e2:(Op.equal t (.agg #[vs a,.bool b]) (.agg #[vs a',.bool b'])).run P w= .ok (decide ((a,b)=(a',b'))) w:=eqIn_wd ht h1n h2n o1 o2 hs h1 h2 9998 a a' b b'
 have hr:(do eqGuard .eql t x y (.agg #[vs a,.bool b]) (.agg #[vs a',.bool b']);binOp .eql t (.agg #[vs a,.bool b]) (.agg #[vs a',.bool b']):Sem Value).run P w= .ok (.bool (decide ((a,b)=(a',b')))) w:=by
  simp[eqGuard,binOp,e2,program,Sem.run,hg]
 have:=zar (P:=P) (K:=K) hr h
 rw[←hx,←hy]at this
 exact this
end
def zdZ(ws:List (Lab×Bool)):Bool:=match ws with|x::_=>decide (x=([92,35],false))| []=>false
theorem zdI{w:World}{t:Int}{wv:Value}{oa:Option Addr}{on oc:Nat}{ws:List (Lab×Bool)}{e:Int}{G:Nat→List Value→World→Prop}(ht1:1≤t)(ht2:t≤65535)(hr:Rows 2 WdC w wv ws)
  (hG:∀B cs x y S,G B cs x→Keep S x y→(∀i,S i→i<B)→G B cs y)
  (hc:∀(b:Nat) (w1:World),Rdr w w1 b ws (.slice oa on oc) 0→Fn Tryz.prog (if zdZ ws=true then 105 else 106) #[.pointer (some ⟨b,0,Option.none⟩),vi t] w1 (fun v w'=>(∃cs:List Value,v= .agg cs.toArray∧cs.length=5∧(∀x∈cs,one x=true)∧G w1.heap.size cs w')∧Rdr w w' b [] (.slice oa on oc) e∧Keep (fun i=>i=b) w1 w')):
  Fn Tryz.prog 38 #[vi t,wv,.slice oa on oc] w (fun v w'=>Ext w w'∧(e=0→∃cs:List Value,∃B,v= .tuple #[.agg cs.toArray,vi 0]∧w.heap.size≤B∧G B cs w')∧(¬e=0→v= .tuple #[.agg ([vi 0,.slice Option.none 0 0,.slice Option.none 0 0,.slice Option.none 0 0,.slice Option.none 0 0]:List Value).toArray,vi e])):=by
 obtain⟨wa,wc,rfl,hcap,hget⟩:=hr.open
 refine enter Tryz.func38 Tryz.ntmps38 rfl rfl ?_
 refine go trivial ?_
 refine zan ?_
 intro w1 hE1 hs1 hA
 refine rq ?_;intro gd K hgd hK
 try simp only[go_sem]
 refine⟨by kernel_rfl,?_⟩
 rw[show bdV Tryz.prog 162 [(0,.slice wa ws.length wc),(1,.slice oa on oc)]=some (.agg #[.slice wa ws.length wc,.slice oa on oc,vi 0]) from by kernel_rfl]
 try simp only[go_sem]
 refine hK _ _ ?_;clear hK hgd;clear K;try clear gd
 refine zan ?_
 intro w2 hE2 hs2 hB
 rw[hs1]at hB
 simp only[hs1]
 refine go trivial ?_
 refine zan ?_
 intro w3 hE3 hs3 hC
 have hw2:w2.heap.size=w.heap.size+2:=by omega
 rw[hw2]at hC
 simp only[hw2]
 have hR3:Rdr w w3 (w.heap.size+1) ws (.slice oa on oc) 0:=⟨(hE1.trans hE2).trans hE3,by omega,⟨_,Ext.at hE3 hB,hr⟩,rfl⟩
 refine rgg [(2,20)] (an2 (decide_eq_false (show¬t<1 by omega)) (decide_eq_false (show¬65535<t by omega))) ?_
 refine go trivial ?_
 refine zav (Q:=fun e' σ' ds' v'=>e'= .normal∧ds'=[]∧v'=w3∧(σ' 0=vi t∧σ' 6= .pointer (some ⟨w.heap.size,0,Option.none⟩)∧σ' 8= .pointer (some ⟨w.heap.size+1,0,Option.none⟩)∧σ' 9= .pointer (some ⟨w.heap.size+2,0,Option.none⟩))∧σ' 25= .bool (zdZ ws)) ?_ ?_
 ·cases ws with
  |nil=>
   refine rgg [(3,29)] (show decide ((0:Int)<(([]:List (Lab×Bool)).length:Int))=false from rfl) ?_
   exact⟨rfl,rfl,rfl,⟨vr0,vr0,vr0,vr0⟩,vr0⟩
  |cons x rest=>
   obtain⟨tx,qx⟩:=x
   obtain⟨cs0,g0,hcs⟩:=hget 0 (by simp)
   simp only[List.getElem_cons_zero,Nat.zero_mul,zaC]at g0 hcs
   unfold WdC at hcs
   subst hcs
   have g:=zaj hR3.ext g0
   obtain⟨xa,rfl⟩:∃x,wa=some x:=by
    cases wa with
    |none=>cases g0
    |some x=>exact⟨x,rfl⟩
   have l0:decide ((0:Int)<((((tx,qx)::rest).length:Nat):Int))=true:=decide_eq_true (by rw[List.length_cons];omega)
   have l0':(0:Int)<((((tx,qx)::rest).length:Nat):Int):=by rw[List.length_cons];omega
   refine rq ?_;intro gd K hgd hK
   have hg3:∀n σ b,zaw gd n σ (some (3,b))=zao (ev n σ (.tmp 29)) b:=(fun n σ b=>by rw[zai,show gd 3=some 29 from(by rw[hgd];rfl)];rfl)
   try simp (disch:=first|omega|assumption|rfl) only[go_sem,l0,l0',Int.toNat_zero,Nat.zero_mul,zaC,g,↓hg3]
   refine⟨by kernel_rfl,?_⟩
   rw[show bdV Tryz.prog 141 [(0,vs [92,35])]=some (.agg #[vs [92,35],.bool false]) from by kernel_rfl]
   try simp (disch:=first|omega|assumption|rfl) only[go_sem,l0,↓hg3]
   refine op_eqS (a:=tx) (b:=qx) (a':=[92,35]) (b':=false) rfl (by decide) (by decide) rfl rfl (by kernel_rfl) rfl rfl (by kernel_rfl) (vr0) (vr0) ?_
   try simp (disch:=first|omega|assumption|rfl) only[go_sem,l0,↓hg3]
   refine hK _ _ ?_;clear hK hgd;clear K;try clear gd
   exact⟨rfl,rfl,rfl,⟨vr0,vr0,vr0,vr0⟩,vr0⟩
 rintro _ σ1 _ w1 ⟨rfl,rfl,rfl,⟨s0,s6,s8,s9⟩,s25⟩
 have hcb:=hc _ _ hR3
 cases hm:zdZ ws
 all_goals
  rw[hm]at s25 hcb
  first
   |rw[if_pos rfl]at hcb
   |rw[if_neg (by decide)]at hcb
  refine go (an5 s0 s6 s8 s9 s25) ?_
  refine rq ?_;intro gd K hgd hK
  try simp (disch:=first|omega|assumption|rfl) only[go_sem,s0,s6,s8,s9]
  refine Fn.mono hcb ?_
  rintro _ w4 ⟨⟨cs,rfl,hcs,hcs1,hg4⟩,hR4,hk4⟩
  have hs4:=hk4.size
  have hC4:=(hk4.block (w.heap.size+2) (by omega) (by omega)).trans hC
  try simp (disch:=first|omega|assumption|rfl) only[go_sem,s9]
  refine zaW (P:=Tryz.prog) (t:=33) (l:=cs) hC4 (by simp[hcs]) hcs1 (by rw[hcs];rfl) rfl ?_
  intro w5 hs5 hC5 hk5
  try simp only[go_sem]
  refine hK _ _ ?_;clear hK hgd;clear K;try clear gd
  rw[show w1.heap.size=w.heap.size+3 by omega]at hg4
  have hG5:=hG _ _ _ _ _ hg4 hk5 fun i hi=>by omega
  have hR5:Rdr w w5 (w.heap.size+1) [] (.slice oa on oc) e:=hR4.keep hk5 fun i hi=>by omega
  obtain⟨wv5,hb5,_⟩:=hR5.at'
  have c5:zad w5 (some ⟨w.heap.size+1,2,Option.none⟩)=some (vi e):=zaa hb5 rfl
  have hA5:=(hk5.block w.heap.size (by omega) (by omega)).trans ((hk4.block w.heap.size (by omega) (by omega)).trans (Ext.at (hE2.trans hE3) hA))
  have hE5:Ext w w5:=hR5.ext
  by_cases he:e=0
  ·subst he
   have ez:decide ((0:Int)=0)=true:=rfl
   have p9:zaB w5 (some ⟨w.heap.size+2,0,Option.none⟩) 5=some cs:=by
    have:=zam (n:=5) hC5 (by simp[hcs])
    exact this
   refine go (an6 s6 s8 s9 c5 ez (Nat.zero_add 2)) ?_
   refine rq ?_;intro gd K hgd hK
   try simp (disch:=first|omega|assumption|rfl) only[go_sem,s6,s9,p9]
   refine zaW (P:=Tryz.prog) (t:=33) (l:=cs) hA5 (by rw[hcs];rfl) hcs1 (by rw[hcs];rfl) rfl ?_
   intro w6 hs6 hB6 hk6
   try simp only[go_sem]
   refine hK _ _ ?_;clear hK hgd;clear K;try clear gd
   refine go trivial ?_
   refine zag (.inr rfl) Tryz.ntmps38 rfl (zaL (x:=⟨w.heap.size,0,Option.none⟩) (k:=5) ((vr1 s6)) rfl rfl (zam (n:=5) hB6 (by simp[hcs])) (zac (vr0) zae)) ?_
   exact⟨Keep.to_ext hE5 rfl (fun i hi=>by omega) hk6,fun _=>⟨cs,_,rfl,(by omega),hG _ _ _ _ _ hG5 hk6 fun i hi=>by omega⟩,fun h=>absurd rfl h⟩
  ·refine go (an6 s6 s8 s9 c5 (decide_eq_false he) (Nat.zero_add 2)) ?_
   refine za4 (fun _=>false) [(0,true),(1,true),(2,true),(3,true),(4,true),(5,false),(6,true)] ((fun i=>i=w.heap.size)) mixed (by kernel_rfl) ?_;intro gd K x hgd hx hxe hK;have hx0:=za5 hxe;clear hxe
   have c5x:=zab hx0 c5
   simp (disch:=first|omega|assumption|rfl) only[go_sem]
   refine⟨by kernel_rfl,?_⟩
   rw[show bdV Tryz.prog 33 []=some (.agg #[vi 0,.slice Option.none 0 0,.slice Option.none 0 0,.slice Option.none 0 0,.slice Option.none 0 0]) from by kernel_rfl]
   simp (disch:=first|omega|assumption|rfl) only[go_sem,s6,s8,c5x,Nat.zero_add]
   refine⟨fun a ha hb'=>by cases ha;dsimp only at hb';omega,?_⟩
   refine zaW (P:=Tryz.prog) (t:=33) (l:=[vi 0,.slice Option.none 0 0,.slice Option.none 0 0,.slice Option.none 0 0,.slice Option.none 0 0]) (Ext.at hx0 hA5) rfl (zcz _ _ _ _ _ rfl rfl rfl rfl) rfl rfl ?_
   intro w6 hs6 hB6 hk6
   refine⟨.inr hk6,?_⟩
   simp (disch:=first|omega|assumption|rfl) only[go_sem]
   refine hK _ _ ?_;clear hK hgd;clear K;try clear gd
   refine go trivial ?_
   have hE6:Ext w w6:=Keep.to_ext (hE5.trans hx0) rfl (fun i hi=>by omega) hk6
   refine zag (.inr rfl) Tryz.ntmps38 rfl (zaL (x:=⟨w.heap.size,0,Option.none⟩) (k:=5) ((vr1 s6)) rfl rfl (zam (n:=5) hB6 rfl) (zac (vr0) zae)) ?_
   exact⟨hE6,fun h=>absurd h he,fun _=>rfl⟩
end Go.Proofs.YtanmnkbccfcagaaGreatDoor
