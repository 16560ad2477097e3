/-
  Texts of a proof, joined: JM, JN, JO, JP, JQ, HQ, HR, HS, HT, HU, HW, HV, KR, KR5, KR6, E6, E7, E8, B3, K24, E9, E10, F2, Y4, F3, F4, Y5, F5, E11, E12, E13, F6, F7, F8, F9, G0, G1, G2, G3, G4, G5, HX, K26, JR.
  Conditions: none.
-/
import Derived.Test.YtihbdhjibplldaaGreatDoorQLI06
import Derived.Test.YtihbdhjibplldaaGreatDoorQLI04
import Derived.Test.YtihbdhjibplldaaGreatDoorQLI02
import Derived.Test.YtihbdhjibplldaaGreatDoorQLI03
import Derived.MapFrom
import Derived.Test.YtihbdhjibplldaaGreatDoorQLI01
set_option linter.unusedVariables false
set_option linter.unusedSimpArgs false
set_option linter.defProp false
set_option linter.unnecessarySimpa false
set_option maxHeartbeats 8000000
namespace Go.Proofs.YtihbdhjibplldaaGreatDoor
open Go
set_option maxRecDepth 10000
def zax(t:Int):Int×Int×Int×Int:=if t=1 then(0,0,0,4) else if t=28 then(0,0,0,16) else if t=15 then(1,1,0,0) else if t=6 then(2,5,0,0) else if t=16 then(0,0, -1,0) else if t=2∨t=5∨t=12∨t=39 then(1,0,0,0) else(0,0,0, -1)
def ze5(x:Int×Int×Int×Int):Value:= .agg #[vi x.1,vi x.2.1,vi x.2.2.1,vi x.2.2.2]
theorem zd2(a b c d:Int):∀v∈ [vi a,vi b,vi c,vi d],one v=true:=fun v h=>by
 simp at h
 rcases h with rfl|rfl|rfl|rfl<;>rfl
theorem zjK(w:World)(t:Int):Fn Tryz.prog 183 #[vi t] w (fun v w'=>v=ze5 (zax t)∧Ext w w'):=by
 refine enter Tryz.func183 Tryz.ntmps183 rfl rfl ?_
 refine go trivial ?_
 refine zan ?_
 intro w1 hE1 hs1 hA
 unfold zax
 by_cases h0:t=1
 ·have d0:decide (t=1)=true:=decide_eq_true h0
  rw[if_pos h0]
  refine go d0 ?_
  refine rq ?_;intro gd K hgd hK
  try simp only[go_sem]
  refine⟨by kernel_rfl,?_⟩
  rw[show bdV Tryz.prog 251 [(3,vi 4)]=some (.agg #[vi 0,vi 0,vi 0,vi 4]) from by kernel_rfl]
  try simp only[go_sem]
  refine zaK (P:=Tryz.prog) (t:=251) (l:=[vi 0,vi 0,vi 0,vi 4]) hA rfl (zd2 _ _ _ _) rfl rfl ?_
  intro w2 hs2 hB2 hk2
  try simp only[go_sem]
  refine hK _ _ ?_;clear hK hgd;clear K;try clear gd
  refine go trivial ?_
  refine zaf (.inr rfl) Tryz.ntmps183 rfl (zaO (x:=⟨w.heap.size,0,Option.none⟩) (k:=4) (vr0) rfl rfl (zaj hB2 rfl) zae) ?_
  exact⟨rfl,Keep.to_ext hE1 rfl (fun b hb=>by omega) hk2⟩
 have d0:decide (t=1)=false:=decide_eq_false h0
 rw[if_neg h0]
 by_cases h1:t=28
 ·have d1:decide (t=28)=true:=decide_eq_true h1
  rw[if_pos h1]
  refine go (an2 d0 d1) ?_
  refine rq ?_;intro gd K hgd hK
  try simp only[go_sem]
  refine⟨by kernel_rfl,?_⟩
  rw[show bdV Tryz.prog 251 [(3,vi 16)]=some (.agg #[vi 0,vi 0,vi 0,vi 16]) from by kernel_rfl]
  try simp only[go_sem]
  refine zaK (P:=Tryz.prog) (t:=251) (l:=[vi 0,vi 0,vi 0,vi 16]) hA rfl (zd2 _ _ _ _) rfl rfl ?_
  intro w2 hs2 hB2 hk2
  try simp only[go_sem]
  refine hK _ _ ?_;clear hK hgd;clear K;try clear gd
  refine go trivial ?_
  refine zaf (.inr rfl) Tryz.ntmps183 rfl (zaO (x:=⟨w.heap.size,0,Option.none⟩) (k:=4) (vr0) rfl rfl (zaj hB2 rfl) zae) ?_
  exact⟨rfl,Keep.to_ext hE1 rfl (fun b hb=>by omega) hk2⟩
 have d1:decide (t=28)=false:=decide_eq_false h1
 rw[if_neg h1]
 by_cases h2:t=15
 ·have d2:decide (t=15)=true:=decide_eq_true h2
  rw[if_pos h2]
  refine go (an3 d0 d1 d2) ?_
  refine rq ?_;intro gd K hgd hK
  try simp only[go_sem]
  refine⟨by kernel_rfl,?_⟩
  rw[show bdV Tryz.prog 251 [(0,vi 1),(1,vi 1)]=some (.agg #[vi 1,vi 1,vi 0,vi 0]) from by kernel_rfl]
  try simp only[go_sem]
  refine zaK (P:=Tryz.prog) (t:=251) (l:=[vi 1,vi 1,vi 0,vi 0]) hA rfl (zd2 _ _ _ _) rfl rfl ?_
  intro w2 hs2 hB2 hk2
  try simp only[go_sem]
  refine hK _ _ ?_;clear hK hgd;clear K;try clear gd
  refine go trivial ?_
  refine zaf (.inr rfl) Tryz.ntmps183 rfl (zaO (x:=⟨w.heap.size,0,Option.none⟩) (k:=4) (vr0) rfl rfl (zaj hB2 rfl) zae) ?_
  exact⟨rfl,Keep.to_ext hE1 rfl (fun b hb=>by omega) hk2⟩
 have d2:decide (t=15)=false:=decide_eq_false h2
 rw[if_neg h2]
 by_cases h3:t=6
 ·have d3:decide (t=6)=true:=decide_eq_true h3
  rw[if_pos h3]
  refine go (an4 d0 d1 d2 d3) ?_
  refine rq ?_;intro gd K hgd hK
  try simp only[go_sem]
  refine⟨by kernel_rfl,?_⟩
  rw[show bdV Tryz.prog 251 [(0,vi 2),(1,vi 5)]=some (.agg #[vi 2,vi 5,vi 0,vi 0]) from by kernel_rfl]
  try simp only[go_sem]
  refine zaK (P:=Tryz.prog) (t:=251) (l:=[vi 2,vi 5,vi 0,vi 0]) hA rfl (zd2 _ _ _ _) rfl rfl ?_
  intro w2 hs2 hB2 hk2
  try simp only[go_sem]
  refine hK _ _ ?_;clear hK hgd;clear K;try clear gd
  refine go trivial ?_
  refine zaf (.inr rfl) Tryz.ntmps183 rfl (zaO (x:=⟨w.heap.size,0,Option.none⟩) (k:=4) (vr0) rfl rfl (zaj hB2 rfl) zae) ?_
  exact⟨rfl,Keep.to_ext hE1 rfl (fun b hb=>by omega) hk2⟩
 have d3:decide (t=6)=false:=decide_eq_false h3
 rw[if_neg h3]
 by_cases h4:t=16
 ·have d4:decide (t=16)=true:=decide_eq_true h4
  rw[if_pos h4]
  refine go (an5 d0 d1 d2 d3 d4) ?_
  refine rq ?_;intro gd K hgd hK
  try simp only[go_sem]
  refine⟨by kernel_rfl,?_⟩
  rw[show bdV Tryz.prog 251 [(2,vi (-1))]=some (.agg #[vi 0,vi 0,vi (-1),vi 0]) from by kernel_rfl]
  try simp only[go_sem]
  refine zaK (P:=Tryz.prog) (t:=251) (l:=[vi 0,vi 0,vi (-1),vi 0]) hA rfl (zd2 _ _ _ _) rfl rfl ?_
  intro w2 hs2 hB2 hk2
  try simp only[go_sem]
  refine hK _ _ ?_;clear hK hgd;clear K;try clear gd
  refine go trivial ?_
  refine zaf (.inr rfl) Tryz.ntmps183 rfl (zaO (x:=⟨w.heap.size,0,Option.none⟩) (k:=4) (vr0) rfl rfl (zaj hB2 rfl) zae) ?_
  exact⟨rfl,Keep.to_ext hE1 rfl (fun b hb=>by omega) hk2⟩
 have d4:decide (t=16)=false:=decide_eq_false h4
 rw[if_neg h4]
 by_cases h5:t=2
 ·have d5:decide (t=2)=true:=decide_eq_true h5
  rw[if_pos (show t=2∨t=5∨t=12∨t=39 by omega)]
  refine go (an6 d0 d1 d2 d3 d4 d5) ?_
  refine rq ?_;intro gd K hgd hK
  try simp only[go_sem]
  refine⟨by kernel_rfl,?_⟩
  rw[show bdV Tryz.prog 251 [(0,vi 1)]=some (.agg #[vi 1,vi 0,vi 0,vi 0]) from by kernel_rfl]
  try simp only[go_sem]
  refine zaK (P:=Tryz.prog) (t:=251) (l:=[vi 1,vi 0,vi 0,vi 0]) hA rfl (zd2 _ _ _ _) rfl rfl ?_
  intro w2 hs2 hB2 hk2
  try simp only[go_sem]
  refine hK _ _ ?_;clear hK hgd;clear K;try clear gd
  refine go trivial ?_
  refine zaf (.inr rfl) Tryz.ntmps183 rfl (zaO (x:=⟨w.heap.size,0,Option.none⟩) (k:=4) (vr0) rfl rfl (zaj hB2 rfl) zae) ?_
  exact⟨rfl,Keep.to_ext hE1 rfl (fun b hb=>by omega) hk2⟩
 have d5:decide (t=2)=false:=decide_eq_false h5
 by_cases h6:t=5
 ·have d6:decide (t=5)=true:=decide_eq_true h6
  rw[if_pos (show t=2∨t=5∨t=12∨t=39 by omega)]
  refine go (an7 d0 d1 d2 d3 d4 d5 d6) ?_
  refine rq ?_;intro gd K hgd hK
  try simp only[go_sem]
  refine⟨by kernel_rfl,?_⟩
  rw[show bdV Tryz.prog 251 [(0,vi 1)]=some (.agg #[vi 1,vi 0,vi 0,vi 0]) from by kernel_rfl]
  try simp only[go_sem]
  refine zaK (P:=Tryz.prog) (t:=251) (l:=[vi 1,vi 0,vi 0,vi 0]) hA rfl (zd2 _ _ _ _) rfl rfl ?_
  intro w2 hs2 hB2 hk2
  try simp only[go_sem]
  refine hK _ _ ?_;clear hK hgd;clear K;try clear gd
  refine go trivial ?_
  refine zaf (.inr rfl) Tryz.ntmps183 rfl (zaO (x:=⟨w.heap.size,0,Option.none⟩) (k:=4) (vr0) rfl rfl (zaj hB2 rfl) zae) ?_
  exact⟨rfl,Keep.to_ext hE1 rfl (fun b hb=>by omega) hk2⟩
 have d6:decide (t=5)=false:=decide_eq_false h6
 by_cases h7:t=12
 ·have d7:decide (t=12)=true:=decide_eq_true h7
  rw[if_pos (show t=2∨t=5∨t=12∨t=39 by omega)]
  refine go (an8 d0 d1 d2 d3 d4 d5 d6 d7) ?_
  refine rq ?_;intro gd K hgd hK
  try simp only[go_sem]
  refine⟨by kernel_rfl,?_⟩
  rw[show bdV Tryz.prog 251 [(0,vi 1)]=some (.agg #[vi 1,vi 0,vi 0,vi 0]) from by kernel_rfl]
  try simp only[go_sem]
  refine zaK (P:=Tryz.prog) (t:=251) (l:=[vi 1,vi 0,vi 0,vi 0]) hA rfl (zd2 _ _ _ _) rfl rfl ?_
  intro w2 hs2 hB2 hk2
  try simp only[go_sem]
  refine hK _ _ ?_;clear hK hgd;clear K;try clear gd
  refine go trivial ?_
  refine zaf (.inr rfl) Tryz.ntmps183 rfl (zaO (x:=⟨w.heap.size,0,Option.none⟩) (k:=4) (vr0) rfl rfl (zaj hB2 rfl) zae) ?_
  exact⟨rfl,Keep.to_ext hE1 rfl (fun b hb=>by omega) hk2⟩
 have d7:decide (t=12)=false:=decide_eq_false h7
 by_cases h8:t=39
 ·have d8:decide (t=39)=true:=decide_eq_true h8
  rw[if_pos (show t=2∨t=5∨t=12∨t=39 by omega)]
  refine go (an9 d0 d1 d2 d3 d4 d5 d6 d7 d8) ?_
  refine rq ?_;intro gd K hgd hK
  try simp only[go_sem]
  refine⟨by kernel_rfl,?_⟩
  rw[show bdV Tryz.prog 251 [(0,vi 1)]=some (.agg #[vi 1,vi 0,vi 0,vi 0]) from by kernel_rfl]
  try simp only[go_sem]
  refine zaK (P:=Tryz.prog) (t:=251) (l:=[vi 1,vi 0,vi 0,vi 0]) hA rfl (zd2 _ _ _ _) rfl rfl ?_
  intro w2 hs2 hB2 hk2
  try simp only[go_sem]
  refine hK _ _ ?_;clear hK hgd;clear K;try clear gd
  refine go trivial ?_
  refine zaf (.inr rfl) Tryz.ntmps183 rfl (zaO (x:=⟨w.heap.size,0,Option.none⟩) (k:=4) (vr0) rfl rfl (zaj hB2 rfl) zae) ?_
  exact⟨rfl,Keep.to_ext hE1 rfl (fun b hb=>by omega) hk2⟩
 have d8:decide (t=39)=false:=decide_eq_false h8
 rw[if_neg (show¬(t=2∨t=5∨t=12∨t=39) by omega)]
 refine go (an9 d0 d1 d2 d3 d4 d5 d6 d7 d8) ?_
 refine rq ?_;intro gd K hgd hK
 try simp only[go_sem]
 refine⟨by kernel_rfl,?_⟩
 rw[show bdV Tryz.prog 251 [(3,vi (-1))]=some (.agg #[vi 0,vi 0,vi 0,vi (-1)]) from by kernel_rfl]
 try simp only[go_sem]
 refine zaK (P:=Tryz.prog) (t:=251) (l:=[vi 0,vi 0,vi 0,vi (-1)]) hA rfl (zd2 _ _ _ _) rfl rfl ?_
 intro w2 hs2 hB2 hk2
 try simp only[go_sem]
 refine hK _ _ ?_;clear hK hgd;clear K;try clear gd
 refine go trivial ?_
 refine zaf (.inr rfl) Tryz.ntmps183 rfl (zaO (x:=⟨w.heap.size,0,Option.none⟩) (k:=4) (vr0) rfl rfl (zaj hB2 rfl) zae) ?_
 exact⟨rfl,Keep.to_ext hE1 rfl (fun b hb=>by omega) hk2⟩
def txD(d:DatL):Int:=if (zax d.ty).2.2.1<0 then min (max (d.texts.length:Int) 1) 32 else(zax d.ty).2.2.1
def rwD(d:DatL):Int:=if (zax d.ty).2.2.2<0 then(d.raw.length:Int) else(zax d.ty).2.2.2
def zbF(d:DatL):Bool:=decide ((d.names.length:Int)=(zax d.ty).1) && decide ((d.nums.length:Int)=(zax d.ty).2.1) && decide ((d.texts.length:Int)=txD d) && decide ((d.raw.length:Int)=rwD d)
theorem form_ok{w:World}{cs:List Value}{d:DatL}(hd:DatAt w cs d):Fn Tryz.prog 212 #[.agg cs.toArray] w (fun v w'=>v= .bool (zbF d)∧Ext w w'):=by
  obtain⟨nm,nu,tx,rw',rfl,⟨vals,⟨an,cn,rfl,hcn,hgn⟩,hvl,hvr⟩,⟨au,cu,rfl,hcu,hgu⟩,⟨at1,ct,rfl,hct,hgt⟩,⟨ar,cr,rfl,hcr,hgr⟩⟩:=hd.ex
  simp only[List.length_map]at hcu hgu hct hgt hcr hgr
  simp only[List.length_map,hvl]
  refine enter Tryz.func212 Tryz.ntmps212 rfl rfl ?_
  refine go trivial ?_
  refine zan ?_
  intro w1 hE1 hs1 hA
  have p0:zad w1 (some ⟨w.heap.size,0,Option.none⟩)=some (vi d.ty):=zaa hA rfl
  obtain⟨⟨a,b,c,r⟩,hsh⟩:∃x,zax d.ty=x:=⟨_,rfl⟩
  have htx:txD d=if c<0 then min (max (d.texts.length:Int) 1) 32 else c:=by unfold txD;rw[hsh]
  have hrw:rwD d=if r<0 then(d.raw.length:Int) else r:=by unfold rwD;rw[hsh]
  refine rq ?_;intro gd K hgd hK
  try simp (disch:=first|omega|assumption|rfl) only[go_sem,p0,Nat.add_zero]
  refine Fn.mono (zjK w1 d.ty) ?_
  rintro _ w2 ⟨rfl,hE2⟩
  rw[hsh]
  unfold ze5
  simp only
  try simp only[go_sem]
  refine zbo (P:=Tryz.prog) (l:=[vi a,vi b,vi c,vi r]) rfl (zd2 _ _ _ _) rfl rfl ?_
  intro w3 hE3 hs3 hB3
  try simp only[go_sem]
  refine hK _ _ ?_;clear hK hgd;clear K;try clear gd
  obtain⟨P,hP⟩:∃P,w2.heap.size=P:=⟨_,rfl⟩
  rw[hP]at hB3
  simp only[hP]
  have hE13:=(hE1.trans hE2).trans hE3
  have hA3:=Ext.at (hE2.trans hE3) hA
  have hs2:=hE2.size
  have hs3':=hE3.size
  have vars:∀{z:World},Keep (fun i=>i=P) w3 z→zad z (some ⟨w.heap.size,1,Option.none⟩)=some (.slice an d.names.length cn)∧zad z (some ⟨w.heap.size,2,Option.none⟩)=some (.slice au d.nums.length cu)∧zad z (some ⟨w.heap.size,3,Option.none⟩)=some (.slice at1 d.texts.length ct)∧zad z (some ⟨w.heap.size,4,Option.none⟩)=some (.slice ar d.raw.length cr):=fun {z} hk=>by
    have hz:=(hk.block w.heap.size (by omega) (by omega)).trans hA3
    exact⟨zaa hz rfl,zaa hz rfl,zaa hz rfl,zaa hz rfl⟩
  have c2:zad w3 (some ⟨P,2,Option.none⟩)=some (vi c):=za1 (j:=2) hB3 rfl
  obtain⟨t1,ht1⟩:∃t,decide (c<0)=t:=⟨_,rfl⟩
  refine go (an3 c2 ht1 (Nat.zero_add 2)) ?_
  refine zat (Q:=fun e σ' ds' v'=>e= .normal∧ds'=[]∧(σ' 1= .pointer (some ⟨w.heap.size,0,Option.none⟩)∧σ' 3= .pointer (some ⟨P,0,Option.none⟩))∧v'.heap[P]? =some (.cells [vi a,vi b,vi (txD d),vi r].toArray 251 (0,0))∧Keep (fun i=>i=P) w3 v') ?_ ?_
  · cases t1 with
    |true=>
      have hc:=of_decide_eq_true ht1
      rw[if_pos hc]at htx
      obtain⟨_,_,k3,_⟩:=vars (Keep.refl _ w3)
      refine go trivial ?_
      refine rq ?_;intro gd K hgd hK
      try simp (disch:=first|omega|assumption|rfl) only[go_sem,k3,Nat.zero_add]
      refine zjG (vr0) (vr0) ?_
      try simp only[go_sem]
      refine zgo (vr0) (vr0) ?_
      rw[←htx]
      try simp (disch:=first|omega|assumption|rfl) only[go_sem,Nat.zero_add]
      refine zcw (P:=Tryz.prog) (t:=3) (j:=2) (u:=vi (txD d)) hB3 (by simp) rfl rfl rfl ?_
      intro z hz hbz hkz
      try simp only[go_sem]
      refine hK _ _ ?_;clear hK hgd;clear K;try clear gd
      refine go trivial ?_
      exact⟨rfl,rfl,⟨vr0,vr0⟩,hbz,hkz⟩
    |false=>
      have hc:=of_decide_eq_false ht1
      rw[if_neg hc]at htx
      refine go trivial ?_
      exact⟨rfl,rfl,⟨vr0,vr0⟩,by rw[htx];exact hB3,Keep.refl _ _⟩
  rintro _ σ1 _ v1 ⟨rfl,rfl,⟨s1,s3⟩,hB4,hk4⟩
  have c3:zad v1 (some ⟨P,3,Option.none⟩)=some (vi r):=za1 (j:=3) hB4 rfl
  obtain⟨t2,ht2⟩:∃t,decide (r<0)=t:=⟨_,rfl⟩
  refine go (an5 s1 s3 c3 ht2 (Nat.zero_add 3)) ?_
  refine zat (Q:=fun e σ' ds' v'=>e= .normal∧ds'=[]∧(σ' 1= .pointer (some ⟨w.heap.size,0,Option.none⟩)∧σ' 3= .pointer (some ⟨P,0,Option.none⟩))∧v'.heap[P]? =some (.cells [vi a,vi b,vi (txD d),vi (rwD d)].toArray 251 (0,0))∧Keep (fun i=>i=P) w3 v') ?_ ?_
  · cases t2 with
    |true=>
      rw[if_pos (of_decide_eq_true ht2)]at hrw
      obtain⟨_,_,_,k4⟩:=vars hk4
      refine go (an2 s1 s3) ?_
      refine rq ?_;intro gd K hgd hK
      try simp (disch:=first|omega|assumption|rfl) only[go_sem,s1,s3,k4,Nat.zero_add]
      refine zcw (P:=Tryz.prog) (t:=3) (j:=3) (u:=vi (d.raw.length:Int)) hB4 (by simp) rfl rfl rfl ?_
      intro z hz hbz hkz
      try simp only[go_sem]
      refine hK _ _ ?_;clear hK hgd;clear K;try clear gd
      refine go (an2 s1 s3) ?_
      exact⟨rfl,rfl,⟨(vq1 s1),(vq1 s3)⟩,by rw[hrw];exact hbz,hk4.trans hkz⟩
    |false=>
      rw[if_neg (of_decide_eq_false ht2)]at hrw
      refine go (an2 s1 s3) ?_
      exact⟨rfl,rfl,⟨(vq1 s1),(vq1 s3)⟩,by rw[hrw];exact hB4,hk4⟩
  clear s1 s3
  rintro _ σ2 _ v2 ⟨rfl,rfl,⟨s1,s3⟩,hB5,hk5⟩
  obtain⟨k1,k2,k3,k4⟩:=vars hk5
  have e0:zad v2 (some ⟨P,0,Option.none⟩)=some (vi a):=za1 (j:=0) hB5 rfl
  have e1:zad v2 (some ⟨P,1,Option.none⟩)=some (vi b):=za1 (j:=1) hB5 rfl
  have e2:zad v2 (some ⟨P,2,Option.none⟩)=some (vi (txD d)):=za1 (j:=2) hB5 rfl
  have e3:zad v2 (some ⟨P,3,Option.none⟩)=some (vi (rwD d)):=za1 (j:=3) hB5 rfl
  have hfm:zbF d=(decide ((d.names.length:Int)=a) && decide ((d.nums.length:Int)=b) && decide ((d.texts.length:Int)=txD d) && decide ((d.raw.length:Int)=rwD d)):=by unfold zbF;rw[hsh]
  have hEf:Ext w v2:=Keep.to_ext hE13 rfl (fun i hi=>by omega) hk5
  obtain⟨b1,hb1⟩:∃t,decide ((d.names.length:Int)=a)=t:=⟨_,rfl⟩
  obtain⟨b2,hb2⟩:∃t,decide ((d.nums.length:Int)=b)=t:=⟨_,rfl⟩
  obtain⟨b3,hb3⟩:∃t,decide ((d.texts.length:Int)=txD d)=t:=⟨_,rfl⟩
  obtain⟨b4,hb4⟩:∃t,decide ((d.raw.length:Int)=rwD d)=t:=⟨_,rfl⟩
  rw[hb1,hb2,hb3,hb4]at hfm
  rw[hfm]
  refine go (an2 s1 s3) ?_
  cases b1<;>cases b2<;>cases b3<;>cases b4<;>
    (refine rgg [(6,29),(14,37),(22,45)] (an9 s1 s3 k1 k2 k3 k4 e0 e1 (an9 e2 e3 hb1 hb2 hb3 hb4 (Nat.zero_add 1) (Nat.zero_add 2) (an2 (Nat.zero_add 3) (Nat.zero_add 4)))) ?_
     refine go trivial ?_
     refine zaf (.inr rfl) Tryz.ntmps212 rfl (zac (vr0) zae) ?_
     exact⟨rfl,hEf⟩)
def zdv(ts:List Lab):Bool:=ts.any fun t=>decide (255<t.length)
theorem zj5(w:World)(t:Lab)(hl:t.length≤1000000000):Fn Tryz.prog 214 #[vs t] w (fun v w'=>v= .bool (decide (255<t.length))∧Ext w w'):=by
 have h1:decide ((255:Int)<(t.length:Int))=decide (255<t.length):=decide_eq_decide.2 (by omega)
 refine enter Tryz.func214 Tryz.ntmps214 rfl rfl ?_
 refine go h1 ?_
 refine rt0 Tryz.ntmps214 ?_
 exact⟨rfl,Keep.refl _ _⟩
theorem Idx_ok{w:World}{v:Value}{ts:List Lab}(hr:Row w v (ts.map vs))(hl:ts.length≤1000000000)(hx:∀t∈ts,t.length≤1000000000):Fn Tryz.prog 229 #[v,.func (.func 214) #[] #[]] w (fun u w'=>Ext w w'∧∃k:Int,u=vi k∧decide (0≤k)=zdv ts):=by
 obtain⟨a,c,rfl,hg⟩:=zc9 hr
 refine enter Tryz.func229 Tryz.ntmps229 rfl rfl ?_
 refine go trivial ?_
 refine zba ts.length (fun i σ v=>(σ 0= .slice a ts.length c∧σ 1= .func (.func 214) #[] #[]∧σ 7=vi ts.length∧σ 8=vi i)∧Ext w v∧∀j (h:j<ts.length),j<i→ts[j].length≤255) ?_ ?_ ?_
 ·exact⟨⟨vr0,vr0,vr0,vr0⟩,Keep.refl _ _,fun j _ h=>by omega⟩
 ·rintro i σ v hi r ⟨⟨s0,s1,s7,s8⟩,hE,hlow⟩
  obtain⟨x,rfl,g0⟩:=hg i hi
  have g:=zab hE g0
  obtain⟨t,ht⟩:∃t,ts[i]=t:=⟨_,rfl⟩
  rw[ht]at g
  have htl:=hx t (ht▸List.getElem_mem hi)
  have hi0:(0:Int)≤(i:Int):=by omega
  have hi1:(i:Int)<(ts.length:Int):=by omega
  have hi2:(i:Int)+1=((i+1:Nat):Int):=by push_cast;rfl
  refine go (an8 s0 s1 s7 s8 r g hi0 hi1) ?_
  refine rc (an6 s0 s1 s8 g hi0 hi1) (zj5 v t htl) ?_
  rintro _ v1 ⟨rfl,hE1⟩
  by_cases hlt:255<t.length
  ·rw[decide_eq_true hlt]
   refine rgo (an2 s0 s8) ?_
   refine zaf (.inr rfl) Tryz.ntmps229 rfl (zac ((vr1 s8)) zae) ?_
   refine⟨hE.trans hE1,(i:Int),rfl,?_⟩
   have:zdv ts=true:=by
    unfold zdv
    rw[List.any_eq_true]
    exact⟨t,ht▸List.getElem_mem hi,decide_eq_true hlt⟩
   rw[this]
   exact decide_eq_true hi0
  ·rw[decide_eq_false hlt]
   refine rgo (an5 s0 s1 s7 s8 hi2) ?_
   refine⟨rfl,⟨(vq1 s0),(vq1 s1),(vq1 s7),(vq1 hi2)⟩,hE.trans hE1,fun j hj hji=>?_⟩
   by_cases e:j=i
   ·subst e;rw[ht];omega
   ·exact hlow j hj (by omega)
 ·rintro σ v r ⟨⟨s0,s1,s7,s8⟩,hE,hlow⟩
  refine go (an5 s0 s1 s7 s8 r) ?_
  refine zaf (.inr rfl) Tryz.ntmps229 rfl (zac (vr0) zae) ?_
  refine⟨hE, -1,rfl,?_⟩
  have:zdv ts=false:=by
   unfold zdv
   rw[List.any_eq_false]
   intro t ht
   obtain⟨j,hj,rfl⟩:=List.mem_iff_getElem.1 ht
   have:=hlow j hj hj
   simp;omega
  rw[this];rfl
theorem zhx{w:World}{v:Value}{ts:List Lab}(hr:Row w v (ts.map vs))(hl:ts.length≤1000000000)(hx:∀t∈ts,t.length≤1000000000):Fn Tryz.prog 213 #[v,.func (.func 214) #[] #[]] w (fun u w'=>u= .bool (zdv ts)∧Ext w w'):=by
 refine enter Tryz.func213 Tryz.ntmps213 rfl rfl ?_
 refine go trivial ?_
 refine rc trivial (Idx_ok hr hl hx) ?_
 rintro _ w1 ⟨hE1,k,rfl,hk⟩
 refine rgo hk ?_
 refine rt0 Tryz.ntmps213 ?_
 exact⟨rfl,hE1⟩
def za9(d:DatL):Int:=if d.ty<1∨65535<d.ty then 6 else if zbF d=false then 2 else match d.names.find? (fun n=>decide (zaE n≠0)) with
 |some n=>zaE n
 |Option.none=>if d.ty=15∧65535<d.nums.headD 0 then 7 else if 1024<d.raw.length∨zdv d.texts=true then 3 else 0
theorem zk8{w:World}{cs:List Value}{d:DatL}(hd:DatAt w cs d)(hT:DatT d):Fn Tryz.prog 186 #[.agg cs.toArray] w (fun v w'=>v=vi (za9 d)∧Ext w w'):=by
 have hS:=hT.s
 have hd0:=hd
 obtain⟨nm,nu,tx,rw',rfl,⟨vals,⟨an,cn,rfl,hcn,hgn⟩,hvl,hvr⟩,hnu,htx,hrw⟩:=hd.ex
 obtain⟨au,cu,hau,hcu,hgu⟩:=id hnu
 obtain⟨at1,ct,hat,_⟩:=id htx
 obtain⟨ar,cr,har,_⟩:=id hrw
 rw[List.length_map]at hau hat har hcu
 subst hau
 subst hat
 subst har
 unfold za9
 refine enter Tryz.func186 Tryz.ntmps186 rfl rfl ?_
 refine go trivial ?_
 refine zan ?_
 intro w1 hE1 hs1 hA
 have p0:zad w1 (some ⟨w.heap.size,0,Option.none⟩)=some (vi d.ty):=zaa hA rfl
 have p5:zar w1 (some ⟨w.heap.size,0,Option.none⟩) 5=some [vi d.ty,.slice an vals.length cn,.slice au d.nums.length cu,.slice at1 d.texts.length ct,.slice ar d.raw.length cr]:=zaj (n:=5) hA rfl
 by_cases c1:d.ty<1
 ·rw[if_pos (.inl c1)]
  refine go trivial ?_
  refine rgg [(3,10)] (an3 p0 (decide_eq_true c1) (Nat.add_zero 0)) ?_
  refine go trivial ?_
  refine zaf (.inr rfl) Tryz.ntmps186 rfl (zac (vr0) zae) ?_
  exact⟨rfl,hE1⟩
 by_cases c2:65535<d.ty
 ·rw[if_pos (.inr c2)]
  refine go trivial ?_
  refine rgg [(3,10)] (an4 p0 (decide_eq_false c1) (decide_eq_true c2) (Nat.add_zero 0)) ?_
  refine go trivial ?_
  refine zaf (.inr rfl) Tryz.ntmps186 rfl (zac (vr0) zae) ?_
  exact⟨rfl,hE1⟩
 rw[if_neg (by omega)]
 refine go trivial ?_
 refine rgg [(3,10)] (an4 p0 (decide_eq_false c1) (decide_eq_false c2) (Nat.add_zero 0)) ?_
 refine go trivial ?_
 refine rc p5 (form_ok (hd0.ext hE1)) ?_
 rintro _ w2 ⟨rfl,hE2⟩
 cases hf:zbF d with
 |false=>
  rw[if_pos rfl]
  refine rgo trivial ?_
  refine zaf (.inr rfl) Tryz.ntmps186 rfl (zac (vr0) zae) ?_
  exact⟨rfl,hE1.trans hE2⟩
 |true=>
 rw[if_neg (by decide)]
 have hA2:=Ext.at hE2 hA
 have q1:zad w2 (some ⟨w.heap.size,1,Option.none⟩)=some (.slice an vals.length cn):=zaa hA2 rfl
 refine rgo (an2 q1 (Nat.zero_add 1)) ?_
 have hE12:=hE1.trans hE2
 have hnames:=hS.names
 have hnn:=hT.nn
 refine zba vals.length (fun i σ v=>(σ 1= .pointer (some ⟨w.heap.size,0,Option.none⟩)∧σ 20= .slice an vals.length cn∧σ 21=vi vals.length∧σ 22=vi i)∧Ext w2 v∧∀j (h:j<d.names.length),j<i→zaE d.names[j]=0) ?_ ?_ ?_
 ·exact⟨⟨vr0,vr0,vr0,vr0⟩,Keep.refl _ _,fun j _ h=>by omega⟩
 ·rintro i σ v hi r ⟨⟨s1,s20,s21,s22⟩,hE,hlow⟩
  have g0:=hgn i hi
  obtain⟨xN,rfl⟩:=Option.isSome_iff_exists.1 (zam g0)
  have hEv:=hE12.trans hE
  have g:=zab hEv g0
  have hin:i<d.names.length:=by omega
  have hrow:=(hvr i hi hin).ext hEv
  obtain⟨nv,hnv⟩:∃nv,vals[i]=nv:=⟨_,rfl⟩
  obtain⟨n,hn⟩:∃n,d.names[i]=n:=⟨_,rfl⟩
  rw[hnv]at g hrow
  rw[hn]at hrow
  have hnS:=hnames n (hn▸List.getElem_mem hin)
  have hi0:(0:Int)≤(i:Int):=by omega
  have hi1:(i:Int)<(vals.length:Int):=by omega
  have hi2:(i:Int)+1=((i+1:Nat):Int):=by push_cast;rfl
  obtain⟨na,nc,hne,_⟩:=id hrow
  refine go (an8 s1 s20 s21 s22 r g hi0 hi1) ?_
  refine rc (an4 s1 s20 s21 s22) (zgW v nv n hrow (fun l hl=>by have:=hnS.1 l hl;omega) (by have:=hnS.2;omega)) ?_
  rintro _ v1 ⟨rfl,hE1'⟩
  by_cases hc:zaE n=0
  ·refine rgo (an6 s1 s20 s21 s22 hi2 (decide_eq_true hc)) ?_
   refine⟨rfl,⟨(vq1 s1),(vq1 s20),(vq1 s21),(vq1 hi2)⟩,hE.trans hE1',fun j hj hji=>?_⟩
   by_cases e:j=i
   ·subst e;rw[hn];exact hc
   ·exact hlow j hj (by omega)
  ·refine rgo (an2 s1 (decide_eq_false hc)) ?_
   refine zaf (.inr rfl) Tryz.ntmps186 rfl (zac (vr0) zae) ?_
   have hfind:d.names.find? (fun n=>decide (zaE n≠0))=some n:=by
    rw[List.find?_eq_some_iff_getElem]
    refine⟨decide_eq_true hc,i,hin,hn,fun j hj=>?_⟩
    simp[hlow j (by omega) hj]
   rw[hfind]
   exact⟨rfl,hEv.trans hE1'⟩
 rintro σ v r ⟨⟨s1,s20,s21,s22⟩,hE,hlow⟩
 have hnone:d.names.find? (fun n=>decide (zaE n≠0))=Option.none:=by
  rw[List.find?_eq_none]
  intro n hn
  obtain⟨j,hj,rfl⟩:=List.mem_iff_getElem.1 hn
  simp[hlow j hj (by omega)]
 rw[hnone]
 simp only
 have hEv:=hE12.trans hE
 have hAv:=Ext.at (hE2.trans hE) hA
 have u0:zad v (some ⟨w.heap.size,0,Option.none⟩)=some (vi d.ty):=zaa hAv rfl
 have u2:zad v (some ⟨w.heap.size,2,Option.none⟩)=some (.slice au d.nums.length cu):=zaa hAv rfl
 have u3:zad v (some ⟨w.heap.size,3,Option.none⟩)=some (.slice at1 d.texts.length ct):=zaa hAv rfl
 have u4:zad v (some ⟨w.heap.size,4,Option.none⟩)=some (.slice ar d.raw.length cr):=zaa hAv rfl
 refine go (an5 s1 s20 s21 s22 r) ?_
 obtain⟨tt,htt⟩:∃tt,decide (d.ty=15∧65535<d.nums.headD 0)=tt:=⟨_,rfl⟩
 refine zat (Q:=fun e σ' ds' v'=>e= .normal∧ds'=[]∧v=v'∧σ' 1= .pointer (some ⟨w.heap.size,0,Option.none⟩)∧σ' 32= .bool tt) ?_ ?_
 ·by_cases c3:d.ty=15
  ·have hn1:d.nums.length=1:=by
    unfold zbF at hf
    simp only[Bool.and_eq_true,decide_eq_true_eq]at hf
    have h2:=hf.1.1.2
    rw[c3]at h2
    have h3:(zax 15).2.1=1:=rfl
    rw[h3]at h2
    omega
   obtain⟨x,hx⟩:∃x,d.nums[0]'(by omega)=x:=⟨_,rfl⟩
   have hhd:d.nums.headD 0=x:=by
    cases hnn:d.nums with
    |nil=>rw[hnn]at hn1;cases hn1
    |cons a l=>simp[hnn]at hx;simpa using hx
   have gu:=zab hEv (hgu 0 (by rw[List.length_map];omega))
   rw[List.getElem_map,hx,zal]at gu
   obtain⟨xU,rfl⟩:∃x,au=some x:=by
    cases au with
    |none=>cases gu
    |some x=>exact⟨x,rfl⟩
   have n0:(0:Int)<(d.nums.length:Int):=by omega
   have d2:decide ((65535:Int)<x)=tt:=by rw[←htt,hhd];exact decide_eq_decide.2 ⟨fun h=>⟨c3,h⟩,fun h=>h.2⟩
   refine rgg [(3,36)] (an9 s1 u0 u2 (decide_eq_true c3) gu n0 d2 (Nat.add_zero 0) (an4 (Nat.zero_add 2) Int.toNat_zero (Nat.zero_mul 1) (zal (some xU)))) ?_
   exact⟨rfl,rfl,rfl,(vq1 s1),vr0⟩
  ·have d2:tt=false:=by rw[←htt];exact decide_eq_false fun h=>c3 h.1
   subst d2
   refine rgg [(3,36)] (an4 s1 u0 (decide_eq_false c3) (Nat.add_zero 0)) ?_
   exact⟨rfl,rfl,rfl,(vq1 s1),vr0⟩
 rintro _ σ1 _ v1 ⟨rfl,rfl,hv1,g1,g32⟩
 subst hv1
 cases tt with
 |true=>
  rw[if_pos (of_decide_eq_true htt)]
  refine go (an2 g1 g32) ?_
  refine zaf (.inr rfl) Tryz.ntmps186 rfl (zac (vr0) zae) ?_
  exact⟨rfl,hEv⟩
 |false=>
 rw[if_neg (of_decide_eq_false htt)]
 have htx':=hS.tx
 by_cases c4:1024<d.raw.length
 ·have d4:decide ((1024:Int)<(d.raw.length:Int))=true:=decide_eq_true (by omega)
  rw[if_pos (.inl c4)]
  refine go (an5 g1 g32 u4 d4 (Nat.zero_add 4)) ?_
  refine zaf (.inr rfl) Tryz.ntmps186 rfl (zac (vr0) zae) ?_
  exact⟨rfl,hEv⟩
 have d4:decide ((1024:Int)<(d.raw.length:Int))=false:=decide_eq_false (by omega)
 refine go (an5 g1 g32 u4 d4 (Nat.zero_add 4)) ?_
 refine rc (an3 g1 u3 (Nat.zero_add 3)) (zhx (htx.ext hEv) (by have:=hS.nt;omega) fun t ht=>by have:=htx' t ht;omega) ?_
 rintro _ v2 ⟨rfl,hE3⟩
 cases hlt:zdv d.texts with
 |true=>
  rw[if_pos (.inr rfl)]
  refine rgo trivial ?_
  refine zaf (.inr rfl) Tryz.ntmps186 rfl (zac (vr0) zae) ?_
  exact⟨rfl,hEv.trans hE3⟩
 |false=>
  rw[if_neg (fun h=>by rcases h with h|h;exact c4 h;cases h)]
  refine rgo trivial ?_
  refine zaf (.inr rfl) Tryz.ntmps186 rfl (zac (vr0) zae) ?_
  exact⟨rfl,hEv.trans hE3⟩
def zfJ(t:Int)(n:Nat):Bool:=if (zax t).2.2.1<0 then decide (1≤(n:Int)) && decide ((n:Int)≤32) else if 0<(zax t).2.2.2 then decide ((n:Int)=1) else if (zax t).2.2.2<0 then false else decide ((n:Int)=(zax t).1+(zax t).2.1)
theorem shape_lt(t:Int):0≤(zax t).1∧(zax t).1≤5∧0≤(zax t).2.1∧(zax t).2.1≤5:=by
 unfold zax
 (repeat' split)<;>decide
theorem zev{W0 w:World}{b:Nat}{ws:List (Lab×Bool)}{ov:Value}{e:Int}(h:Rdr W0 w b ws ov e)(t:Int):Fn Tryz.prog 187 #[.pointer (some ⟨b,0,Option.none⟩),vi t] w (fun v w'=>v= .bool (zfJ t ws.length)∧Ext w w'):=by
  obtain⟨wv,hb,hr⟩:=h.at'
  obtain⟨wa,wc,rfl,_,_⟩:=hr.open
  obtain⟨n,hn⟩:∃n,ws.length=n:=⟨_,rfl⟩
  rw[hn]at hb ⊢
  have hsl:=shape_lt t
  obtain⟨⟨a,c,x,r⟩,hsh⟩:∃x,zax t=x:=⟨_,rfl⟩
  unfold zfJ
  rw[hsh]at hsl ⊢
  simp only at hsl ⊢
  refine enter Tryz.func187 Tryz.ntmps187 rfl rfl ?_
  refine go trivial ?_
  refine rq ?_;intro gd K hgd hK
  try simp only[go_sem]
  refine Fn.mono (zjK w t) ?_
  rintro _ w2 ⟨rfl,hE2⟩
  rw[hsh]
  unfold ze5
  simp only
  try simp only[go_sem]
  refine zbo (P:=Tryz.prog) (l:=[vi a,vi c,vi x,vi r]) rfl (zd2 _ _ _ _) rfl rfl ?_
  intro w3 hE3 hs3 hB3
  try simp only[go_sem]
  refine hK _ _ ?_;clear hK hgd;clear K;try clear gd
  have hE:=hE2.trans hE3
  have c0:zad w3 (some ⟨b,0,Option.none⟩)=some (.slice wa n wc):=zaa (Ext.at hE hb) rfl
  have k0:zad w3 (some ⟨w2.heap.size,0,Option.none⟩)=some (vi a):=za1 (j:=0) hB3 rfl
  have k1:zad w3 (some ⟨w2.heap.size,1,Option.none⟩)=some (vi c):=za1 (j:=1) hB3 rfl
  have k2:zad w3 (some ⟨w2.heap.size,2,Option.none⟩)=some (vi x):=za1 (j:=2) hB3 rfl
  have k3:zad w3 (some ⟨w2.heap.size,3,Option.none⟩)=some (vi r):=za1 (j:=3) hB3 rfl
  by_cases hx:x<0
  · rw[if_pos hx]
    refine go (an3 k2 (decide_eq_true hx) (Nat.zero_add 2)) ?_
    obtain⟨b1,hb1⟩:∃t,decide (1≤(n:Int))=t:=⟨_,rfl⟩
    obtain⟨b2,hb2⟩:∃t,decide ((n:Int)≤32)=t:=⟨_,rfl⟩
    rw[hb1,hb2]
    cases b1<;>cases b2<;>
      (refine rgg [(6,18)] (an4 c0 hb1 hb2 (Nat.add_zero 0)) ?_
       refine go trivial ?_
       refine zaf (.inr rfl) Tryz.ntmps187 rfl (zac (vr0) zae) ?_
       exact⟨rfl,hE⟩)
  rw[if_neg hx]
  by_cases hr1:0<r
  · rw[if_pos hr1]
    refine go (an9 k2 (decide_eq_false hx) (Nat.zero_add 2) k3 (decide_eq_true hr1) (Nat.zero_add 3) c0 (Nat.add_zero 0) trivial) ?_
    refine zaf (.inr rfl) Tryz.ntmps187 rfl (zac (vr0) zae) ?_
    exact⟨rfl,hE⟩
  rw[if_neg hr1]
  by_cases hr2:r<0
  · rw[if_pos hr2]
    refine go (an8 k2 (decide_eq_false hx) (Nat.zero_add 2) k3 (decide_eq_false hr1) (Nat.zero_add 3) (decide_eq_true hr2) trivial) ?_
    refine zaf (.inr rfl) Tryz.ntmps187 rfl (zac (vr0) zae) ?_
    exact⟨rfl,hE⟩
  rw[if_neg hr2]
  refine go (an8 k2 (decide_eq_false hx) (Nat.zero_add 2) k3 (decide_eq_false hr1) (Nat.zero_add 3) (decide_eq_false hr2) trivial) ?_
  refine zaT (fun _=>false) [(0,true),(1,true),(2,true),(3,true),(4,true),(5,true),(6,true),(7,true),(8,true),(9,true),(10,true),(11,true)] NoS mixed (by kernel_rfl) ?_;intro gd K x hgd hx hxe hK;have hx0:=zaR hxe;clear hxe
  have c0x:=zab hx0 c0
  have k0x:=zab hx0 k0
  have k1x:=zab hx0 k1
  simp (disch:=first|omega|assumption|rfl) only[go_sem,c0x,k0x,k1x,Nat.add_zero,Nat.zero_add]
  refine hK _ _ ?_;clear hK hgd;clear K;try clear gd
  refine go trivial ?_
  refine zaf (.inr rfl) Tryz.ntmps187 rfl (zac (vr0) zae) ?_
  exact⟨rfl,hE.trans hx0⟩
theorem zc2(t:Int)(a b c d:Value)(ha:one a=true)(hb:one b=true)(hc:one c=true)(hd:one d=true):∀v∈ [vi t,a,b,c,d],one v=true:=fun v h=>by
 simp at h
 rcases h with rfl|rfl|rfl|rfl|rfl<;>first|rfl|assumption
theorem zjB{W0 w:World}{b:Nat}{t:Lab}{q:Bool}{ov:Value}{e:Int}{ps:List Lab}(hW:WX W0)(h:Rdr W0 w b [(t,q)] ov e)(ht:t.length≤1000000)(hsp:SplP t ps)(hpl:ps.length≤1000000)(hpx:∀p∈ps,p.length≤1000000):
  Fn Tryz.prog 160 #[.pointer (some ⟨b,0,Option.none⟩),vi 1] w (fun v w'=>(∃rv,v= .agg #[vi 1,.slice Option.none 0 0,.slice Option.none 0 0,.slice Option.none 0 0,rv]∧Own w.heap.size w' 5 rv (ps.map octP))∧Rdr W0 w' b [] ov (zhl (if ps.length=4 then(if q=true then zbe e 2 else e) else zbe (if q=true then zbe e 2 else e) 2) ps)∧Keep (fun i=>i=b) w w'):=by
 have hbl:=h.lt
 have hlow:=h.low
 refine enter Tryz.func160 Tryz.ntmps160 rfl rfl ?_
 refine go trivial ?_
 refine zan ?_
 intro w1 hE1 hs1 hA
 refine rq ?_;intro gd K hgd hK
 try simp only[go_sem]
 refine⟨by kernel_rfl,?_⟩
 rw[show bdV Tryz.prog 34 [(0,vi 1)]=some (.agg #[vi 1,.slice Option.none 0 0,.slice Option.none 0 0,.slice Option.none 0 0,.slice Option.none 0 0]) from by kernel_rfl]
 try simp only[go_sem]
 refine zbo (P:=Tryz.prog) (l:=[vi 1,.slice Option.none 0 0,.slice Option.none 0 0,.slice Option.none 0 0,.slice Option.none 0 0]) rfl (zc2 _ _ _ _ _ rfl rfl rfl rfl) rfl rfl ?_
 intro w2 hE2 hs2 hB2
 try simp only[go_sem]
 refine hK _ _ ?_;clear hK hgd;clear K;try clear gd
 rw[hs1]at hB2
 simp only[hs1]
 have hR2:=(h.extx hE1).extx hE2
 refine go trivial ?_
 refine rc trivial (zev hR2 1) ?_
 rintro _ w3 ⟨rfl,hE3⟩
 rw[show zfJ 1 ([(t,q)]:List (Lab×Bool)).length=true from rfl]
 have d1:decide ((1:Int)=1)=true:=rfl
 refine rgo d1 ?_
 have hR3:=hR2.extx hE3
 have hs3:=hE3.size
 refine rq ?_;intro gd K hgd hK
 try simp only[go_sem]
 refine Fn.mono (ziQ hW hR3 (by simp) ht hsp hpl hpx) ?_
 rintro rv w4 ⟨hown,hR4,hk4⟩
 obtain⟨ra,rc',hrv⟩:=hown.slice
 have hs4:=hk4.size
 have hB4:=(hk4.block (w.heap.size+1) (by omega) (by omega)).trans (Ext.at hE3 hB2)
 try simp (disch:=first|omega|assumption|rfl) only[go_sem,Nat.zero_add]
 refine zcw (P:=Tryz.prog) (t:=32) (j:=4) (u:=rv) hB4 (by simp) (by rw[hrv];rfl) rfl rfl ?_
 intro w5 hs5 hB5 hk5
 try simp only[go_sem]
 refine hK _ _ ?_;clear hK hgd;clear K;try clear gd
 simp only[List.set_cons_zero,List.set_cons_succ]at hB5
 have q5:=zaj (n:=5) hB5 rfl
 refine go trivial ?_
 refine rq ?_;intro gd K hgd hK
 try simp (disch:=first|omega|assumption|rfl) only[go_sem,q5]
 have hA5:w5.heap[w.heap.size]? =_:=(hk5.block _ (by omega) (by omega)).trans ((hk4.block _ (by omega) (by omega)).trans (Ext.at (hE2.trans hE3) hA))
 refine zaK (P:=Tryz.prog) (t:=34) (l:=[vi 1,.slice Option.none 0 0,.slice Option.none 0 0,.slice Option.none 0 0,rv]) hA5 rfl (zc2 _ _ _ _ _ rfl rfl rfl (by rw[hrv];rfl)) rfl rfl ?_
 intro w6 hs6 hB6 hk6
 try simp only[go_sem]
 refine hK _ _ ?_;clear hK hgd;clear K;try clear gd
 refine go trivial ?_
 refine zaf (.inr rfl) Tryz.ntmps160 rfl (zaO (x:=⟨w.heap.size,0,Option.none⟩) (k:=5) (vr0) rfl rfl (zaj hB6 rfl) zae) ?_
 have hE13:=(hE1.trans hE2).trans hE3
 refine⟨⟨rv,rfl,((hown.keep hk5 fun i hi hs=>by have:=(hown.ge hi).1;omega).keep hk6 fun i hi hs=>by have:=(hown.ge hi).1;omega).mono (by omega)⟩,(hR4.keep hk5 fun i hi=>by omega).keep hk6 fun i hi=>by omega,?_⟩
 exact((((hE13.mono fun _ _ h=>h.elim):Keep (fun i=>i=b) w w3).trans hk4).own hk5 fun i hi h=>by omega).own hk6 fun i hi h=>by omega
def untT(t:Lab):Lab:=(unD [] 0 t []).1
def zgI(e:Int)(ws:List (Lab×Bool)):Int:=ws.foldl (fun e x=>zbe e (errT x.1)) e
theorem own16_ok{W0 w:World}{b:Nat}{ws:List (Lab×Bool)}{ov:Value}{e:Int}(h:Rdr W0 w b ws ov e)(h1:1≤ws.length)(h32:ws.length≤32)(hx:∀x∈ws,x.1.length≤1000000000):
  Fn Tryz.prog 160 #[.pointer (some ⟨b,0,Option.none⟩),vi 16] w (fun v w'=>(∃tv,v= .agg #[vi 16,.slice Option.none 0 0,.slice Option.none 0 0,tv,.slice Option.none 0 0]∧Own w.heap.size w' 9 tv ((ws.map fun x=>untT x.1).map vs))∧Rdr W0 w' b [] ov (zgI e ws)∧Keep (fun i=>i=b) w w'):=by
 have hbl:=h.lt
 have hlow:=h.low
 refine enter Tryz.func160 Tryz.ntmps160 rfl rfl ?_
 refine go trivial ?_
 refine zan ?_
 intro w1 hE1 hs1 hA
 refine rq ?_;intro gd K hgd hK
 try simp only[go_sem]
 refine⟨by kernel_rfl,?_⟩
 rw[show bdV Tryz.prog 34 [(0,vi 16)]=some (.agg #[vi 16,.slice Option.none 0 0,.slice Option.none 0 0,.slice Option.none 0 0,.slice Option.none 0 0]) from by kernel_rfl]
 try simp only[go_sem]
 refine zbo (P:=Tryz.prog) (l:=[vi 16,.slice Option.none 0 0,.slice Option.none 0 0,.slice Option.none 0 0,.slice Option.none 0 0]) rfl (zc2 _ _ _ _ _ rfl rfl rfl rfl) rfl rfl ?_
 intro w2 hE2 hs2 hB2
 try simp only[go_sem]
 refine hK _ _ ?_;clear hK hgd;clear K;try clear gd
 rw[hs1]at hB2
 simp only[hs1]
 have hR2:=(h.extx hE1).extx hE2
 refine go trivial ?_
 refine rc trivial (zev hR2 16) ?_
 rintro _ w3 ⟨rfl,hE3⟩
 have hmany:zfJ 16 ws.length=true:=by
  unfold zfJ
  rw[if_pos (by decide),decide_eq_true (by omega),decide_eq_true (by omega)]
  rfl
 rw[hmany]
 have d1:decide ((16:Int)=1)=false:=rfl
 have d2:decide ((16:Int)=28)=false:=rfl
 have d3:decide ((16:Int)=16)=true:=rfl
 refine rgo (an3 d1 d2 d3) ?_
 have hR3:=hR2.extx hE3
 have hs3:=hE3.size
 have hB3:=Ext.at hE3 hB2
 obtain⟨P,hP⟩:∃P,w.heap.size+1=P:=⟨_,rfl⟩
 rw[hP]at hB3 ⊢
 have hP3:P<w3.heap.size:=(Array.getElem?_eq_some_iff.1 hB3).1
 refine zat (Q:=fun e' σ' ds' v'=>e'= .exit 5∧ds'=[]∧(σ' 4= .pointer (some ⟨w.heap.size,0,Option.none⟩)∧σ' 5= .pointer (some ⟨P,0,Option.none⟩))∧Rdr W0 v' b [] ov (zgI e ws)∧Keep (fun i=>i=b∨i=P) w3 v'∧∃tv,v'.heap[P]? =some (.cells [vi 16,.slice Option.none 0 0,.slice Option.none 0 0,tv,.slice Option.none 0 0].toArray 34 (0,0))∧Own w3.heap.size v' 9 tv ((ws.map fun x=>untT x.1).map vs)) ?_ ?_
 ·refine za5 (fun m σ ds v=>ds=[]∧∃j,j+m=ws.length∧(σ 0= .pointer (some ⟨b,0,Option.none⟩)∧σ 4= .pointer (some ⟨w.heap.size,0,Option.none⟩)∧σ 5= .pointer (some ⟨P,0,Option.none⟩))∧Rdr W0 v b (ws.drop j) ov (zgI e (ws.take j))∧Keep (fun i=>i=b∨i=P) w3 v∧∃tv,v.heap[P]? =some (.cells [vi 16,.slice Option.none 0 0,.slice Option.none 0 0,tv,.slice Option.none 0 0].toArray 34 (0,0))∧Own w3.heap.size v 9 tv (((ws.take j).map fun x=>untT x.1).map vs)) ws.length ?_ ?_
  ·exact⟨rfl,0,by omega,⟨vr0,vr0,vr0⟩,hR3,Keep.refl _ _,_,hB3,Own.nil _ _ _⟩
  rintro m σ ds v ⟨rfl,j,hjm,⟨s0,s4,s5⟩,hR,hk,tv,hBP,hown⟩
  obtain⟨wv,hb,hr⟩:=hR.at'
  obtain⟨aw,cw,rfl,_,_⟩:=hr.open
  have c0:zad v (some ⟨b,0,Option.none⟩)=some (.slice aw (ws.drop j).length cw):=zaa hb rfl
  by_cases hj:j<ws.length
  ·have g1:decide ((0:Int)<((ws.drop j).length:Int))=true:=decide_eq_true (by rw[List.length_drop];omega)
   obtain⟨⟨u,q⟩,hu⟩:∃x,ws[j]=x:=⟨_,rfl⟩
   have hul:=hx (u,q) (hu▸List.getElem_mem hj)
   have hR':=hR
   rw[List.drop_eq_getElem_cons hj,hu]at hR'
   have q3:zad v (some ⟨P,3,Option.none⟩)=some tv:=za1 (j:=3) hBP rfl
   have hPv:P<v.heap.size:=(Array.getElem?_eq_some_iff.1 hBP).1
   have hlt:=hR.lt
   have hkv:=hk.size
   refine go (an6 s0 s4 s5 c0 g1 (Nat.add_zero 0)) ?_
   refine zaT (fun i=>i==7) [(0,true),(1,true),(2,true),(3,false),(4,false),(5,false),(6,true),(7,false)] ((fun i=>i=b∨some i=tv.ownBlock)) mixed (by kernel_rfl) ?_;intro gd K x hgd hx hxe hK;have hx0:=zaR hxe;clear hxe
   have q3x:=zab hx0 q3
   have hsx:=hx0.size
   simp (disch:=first|omega|assumption|rfl) only[go_sem,s0,s5,q3x,Nat.zero_add]
   refine⟨fun a ha hb'=>by cases ha;rcases hb' with hb'|hb';(· dsimp only at hb';omega);(· have:=(hown.ge hb').1;dsimp only at this;omega),?_⟩
   refine Fn.mono (text_ok (hR'.extx hx0) (by rw[List.length_drop];omega) hul) ?_
   rintro _ y1 ⟨rfl,hR1,hk1⟩
   refine⟨.inr (hk1.mono fun i _ h=> .inl h),?_⟩
   simp (disch:=first|omega|assumption|rfl) only[go_sem]
   refine zbc (z:=vs []) rfl rfl rfl rfl rfl ?_
   intro y2 hy2 hys2 hyo
   refine⟨.inr hy2.keep,?_⟩
   simp (disch:=first|omega|assumption|rfl) only[go_sem]
   have hsy1:=hk1.size
   have hsy2:=hy2.size
   have hownx:Own w3.heap.size y2 9 tv (((ws.take j).map fun x=>untT x.1).map vs):=((hown.ext hx0).keep hk1 fun i hi hs=>by have:=(hown.ge hi).1;omega).ext hy2
   refine za0 (e:=9) hownx hyo.row rfl rfl rfl rfl rfl rfl (vr0) (vr0) (fun q hq=>by simp at hq;subst hq;rfl) (by simp;omega) (by decide) (by omega) ?_
   intro sv' y3 hown3 hX3 hK3 hb3'
   refine⟨.inr (hK3.mono fun i _ h=> .inr h),?_⟩
   simp (disch:=first|omega|assumption|rfl) only[go_sem,s5,Nat.zero_add]
   have hsK:=hK3.size
   have hBP3:y3.heap[P]? =_:=(hK3.block P (by omega) (fun h=>by have:=(hown.ge h).1;omega)).trans ((hy2.block P (by omega) (fun h=>h)).trans ((hk1.block P (by omega) (by omega)).trans (Ext.at hx0 hBP)))
   refine zcw (P:=Tryz.prog) (t:=23) (j:=3) (u:=sv') hBP3 (by simp) (by obtain⟨a,c,rfl⟩:=hown3.slice;rfl) rfl rfl ?_
   intro z hzs hBz hkz
   refine⟨.inl rfl,?_⟩
   simp (disch:=first|omega|assumption|rfl) only[go_sem]
   refine hK _ _ ?_;clear hK hgd;clear K;try clear gd
   simp only[List.set_cons_zero,List.set_cons_succ]at hBz
   refine go (an3 s0 s4 s5) ?_
   have hR2':Rdr W0 y2 b (ws.drop (j+1)) ov (zbe (zgI e (ws.take j)) (errT u)):=hR1.extx hy2
   refine⟨m - 1,by omega,rfl,j+1,by omega,⟨(vq1 s0),(vq1 s4),(vq1 s5)⟩,?_,?_,sv',hBz,?_⟩
   ·rw[zak hj,hu]
    unfold zgI at hR2' ⊢
    rw[List.foldl_append]
    exact(hR2'.keep hK3 fun i hi=>by have:=(hown.ge hi).1;omega).keep hkz fun i hi=>by omega
   ·have ha:Keep (fun i=>i=b∨i=P) w3 y2:=((hk.trans (hx0.mono fun _ _ h=>h.elim)).trans (hk1.mono fun _ _ h=> .inl h)).trans (hy2.mono fun _ _ h=>h.elim)
    exact(ha.own hK3 fun i hi h=>by have:=(hown.ge h).1;omega).trans (hkz.mono fun _ _ h=> .inr h)
   ·rw[zak hj,hu,List.map_append,List.map_append]
    exact hown3.keep hkz fun i hi hs=>by have:=(hown3.ge hi).1;omega
  ·have g1:decide ((0:Int)<((ws.drop j).length:Int))=false:=decide_eq_false (by rw[List.length_drop];omega)
   refine go (an6 s0 s4 s5 c0 g1 (Nat.add_zero 0)) ?_
   rw[List.drop_of_length_le (by omega)]at hR
   rw[List.take_of_length_le (by omega)]at hR hown
   exact⟨rfl,rfl,⟨(vq1 s4),(vq1 s5)⟩,hR,hk,tv,hBP,hown⟩
 rintro _ σ1 _ w4 ⟨rfl,rfl,⟨s4,s5⟩,hR4,hk4,tv,hB4,hown⟩
 obtain⟨ra,rc',htv⟩:=hown.slice
 have hs4:=hk4.size
 have q5:=zaj (n:=5) hB4 rfl
 refine go (an2 s4 s5) ?_
 refine rq ?_;intro gd K hgd hK
 try simp (disch:=first|omega|assumption|rfl) only[go_sem,s4,s5,q5]
 have hA4:w4.heap[w.heap.size]? =_:=(hk4.block _ (by omega) (by omega)).trans (Ext.at (hE2.trans hE3) hA)
 refine zaK (P:=Tryz.prog) (t:=34) (l:=[vi 16,.slice Option.none 0 0,.slice Option.none 0 0,tv,.slice Option.none 0 0]) hA4 rfl (zc2 _ _ _ _ _ rfl rfl (by rw[htv];rfl) rfl) rfl rfl ?_
 intro w6 hs6 hB6 hk6
 try simp only[go_sem]
 refine hK _ _ ?_;clear hK hgd;clear K;try clear gd
 refine go trivial ?_
 refine zaf (.inr rfl) Tryz.ntmps160 rfl (zaO (x:=⟨w.heap.size,0,Option.none⟩) (k:=5) ((vr1 s4)) rfl rfl (zaj hB6 rfl) zae) ?_
 have hE13:=(hE1.trans hE2).trans hE3
 refine⟨⟨tv,rfl,(hown.keep hk6 fun i hi hs=>by have:=(hown.ge hi).1;omega).mono (by omega)⟩,hR4.keep hk6 fun i hi=>by omega,?_⟩
 exact(((hE13.mono fun _ _ h=>h.elim):Keep (fun i=>i=b) w w3).own hk4 fun i hi h=>by omega).own hk6 fun i hi h=>by omega
section
variable {P : Program} {d : Option Tmp} {ty : TypeId} {ps : String} {af : Array Edge} {g : Option (Nat × Bool)} {ρ : Operand → Value} {w : World} {K : Value → World → Prop}
end
set_option maxRecDepth 100000
theorem zkB{P:Program}{w:World}{K:Value→World→Prop}{t e:TypeId}{n:Nat}{parts:List (Nat×Value)}{arr:Array Value}(h:bsC P t n parts=some (e,arr))
  (hk:∀w1,Ext w w1→w1.heap.size=w.heap.size+1→w1.heap[w.heap.size]? =some (.cells arr e (0,0))→K (.slice (some ⟨w.heap.size,0,Option.none⟩) n n) w1):bsL P t n parts w K .mk:=by
 unfold bsL bsK
 rw[h]
 exact hk _ (Ext.alloc w _) (zaB w _) (zaC w _)
theorem zb7(w:World):NamesAt w (.slice Option.none 0 0) []:=⟨[],(Own.nil 0 w 0).row,rfl,fun i h=>absurd h (by simp)⟩
theorem zjJ{w:World}{nv sv:Value}{n:Nm}(h1:Row w sv [nv])(h2:Row w nv (n.map vs)):NamesAt w sv [n]:=⟨[nv],h1,rfl,fun i h h'=>by
 have h0:i=0:=by simp at h;omega
 subst h0
 exact h2⟩
section
variable {α : Type} {cf : α → α → Int} {jn : α → α → α}
end
section
variable {H : Type} {enc : TypeId × Value → H} {P : Program} {w : World} {base : Nat} {sp : Nat → Bool} {held : Bool}
def RdC(enc:TypeId×Value→H)(P:Program)(w:World)(base:Nat)(sp:Nat→Bool)(held:Bool)(t:TypeId)(cs:List Value):Prop:=∃n x,DataW.trod enc P w base sp held n t cs=some x∧∀k∈x.1.weights P t,k≤reachBytes
theorem RdC.one{t:TypeId}{v:Value}(h:RdC enc P w base sp held t [v]):Rd enc P w base sp held t v:=h
theorem Rd.c{t:TypeId}{v:Value}(h:Rd enc P w base sp held t v):RdC enc P w base sp held t [v]:=h
theorem zgP{a:Addr}:∀(k i:Nat) {l:List Value},l.length=k→(∀j (h:j<l.length),w.cell? (a.add (i+j))=some l[j])→zaG w a i k=some l
 |0,_,l,hl,_=>by
  have:l=[]:=List.length_eq_zero_iff.1 hl
  subst this;rfl
 |k+1,i,l,hl,h=>by
  cases l with
  |nil=>cases hl
  |cons v l=>
   have h0:=h 0 (by simp)
   have ih:=zgP (l:=l) k (i+1) (by simpa using hl) (fun j hj=>by
    have:=h (j+1) (by simpa using hj)
    rw[show i+(j+1)=i+1+j from by omega]at this
    simpa using this)
   unfold zaG
   rw[Nat.add_zero]at h0
   rw[h0,ih];rfl
theorem zjs{t e:TypeId}{k:Nat}{v:Value}(h:Rd enc P w base sp held t v)(ht:P.underlying t=some (.slice e))(hc:P.cellsOf e=k):
  ∃L,RowK k w v L∧(∀cs∈L,RdC enc P w base sp held e cs)∧L.length*P.bytesOf e≤reachBytes:=by
 obtain⟨n,x,h,hw⟩:=h
 rcases Go.Deep.open_slice ht h with ⟨h1,_⟩| ⟨a,len,cap,m,q,D,Pl,h1,_,hl,hm,hmm,rfl,hx⟩
 ·simp only[List.cons.injEq,and_true]at h1
  subst h1
  exact⟨[],⟨Option.none,0,rfl,Nat.le_refl _,fun j h=>by simp at h⟩,fun u h=>(by cases h),by simp⟩
 ·simp only[List.cons.injEq,and_true]at h1
  subst h1
  have hml:len≤m:=by rw[hmm];split<;>omega
  simp only[DataW.weights,ht]at hw
  rw[hc]at hx
  obtain⟨V,hV⟩:=Go.Deep.choose_lt (α:=List Value) (p:=fun i cs=>w.cells? base (a.add (i*k)) k=some cs∧DataW.trod enc P w base sp held q e cs=some (D i,Pl i)) hx
  refine⟨(List.range len).map V,⟨some a,cap,by simp,by simpa using hl,fun j hj=>?_⟩,fun u hu=>?_,?_⟩
  ·simp at hj
   obtain⟨_,h2,h3⟩:=World.cells?_some (hV j (by omega)).1
   have e1:((List.range len).map V)[j]'(by simpa using hj)=V j:=by simp
   rw[e1]
   show zaG w (a.add (j*k)) 0 k=_
   refine zgP k 0 h2 (fun i hi=>?_)
   rw[Nat.zero_add,h3 i (by omega)]
   exact List.getElem?_eq_getElem hi
  ·obtain⟨j,hj,rfl⟩:=List.mem_map.1 hu
   simp at hj
   refine⟨_,_,(hV j (by omega)).2,fun q hq=>hw q (List.mem_cons_of_mem _ (List.mem_append_left _ (zce (d:=D j) ?_ hq)))⟩
   exact List.mem_map.2 ⟨j,by simpa using hj,rfl⟩
  ·have h1:=hw _ (List.mem_cons_self ..)
   have h2:((List.range len).map V).length*P.bytesOf e≤(((List.range len).map D).length+((List.range (m - len)).map fun j=>D (len+j)).length)*P.bytesOf e:=Nat.mul_le_mul (by simp) (Nat.le_refl _)
   omega
theorem zhK{e:TypeId}{fs:Array Field}{cs:List Value}(h:RdC enc P w base sp held e cs)(he:P.underlying e=some (.struct fs)):cs.length=P.cellsOf e∧∀(i:Nat) (f:Field),fs[i]? =some f→RdC enc P w base sp held f.type ((cs.drop f.offset).take (P.cellsOf f.type)):=by
 obtain⟨n,x,h,hw⟩:=h
 obtain⟨xs,m,_,rfl,hl,hxl,hf⟩:=DataW.trod_struct he h
 refine⟨hl,fun i f hfi=>?_⟩
 have hi:i<fs.size:=(Array.getElem?_eq_some_iff.1 hfi).1
 have h1:=hf i f hfi
 rw[List.getElem?_eq_getElem (by omega)]at h1
 refine⟨m,_,h1,fun k hk=>hw k ?_⟩
 simp only[DataW.weights,he]
 refine DataW.weights_mem_each (ts:=fs.toList.map (·.type)) (ds:=xs.map (·.1)) (j:=i) (t:=f.type) (d:=xs[i].1) ?_ ?_ k hk
 ·rw[List.getElem?_map]
  rw[show fs.toList[i]? =some f from by simpa using hfi];rfl
 ·rw[List.getElem?_map,List.getElem?_eq_getElem (by omega)];rfl
theorem zjt{t:TypeId}{k:IntKind}{cs:List Value}(h:RdC enc P w base sp held t cs)(ht:P.underlying t=some (.int k)):∃n,cs=[.int k n]∧(Lit.int k n).wf=true:=by
 obtain⟨n,x,h,_⟩:=h
 obtain⟨m,h1,_,h2⟩:=DataW.trod_int ht h
 exact⟨m,h1,h2⟩
end
def zkS(d:DatL):Prop:=(∀n∈d.nums,0≤n∧n≤4294967295)∧ -9223372036854775808≤d.ty∧d.ty≤9223372036854775807
def zkR(r:RecL):Prop:=zkS r.dat∧0≤r.ttl∧r.ttl≤4294967295
section
variable {H : Type} {enc : TypeId × Value → H} {P : Program} {w : World} {base : Nat} {sp : Nat → Bool} {held : Bool}
theorem zhJ{t e:TypeId}{k:IntKind}{v:Value}(h:Rd enc P w base sp held t v)(ht:P.underlying t=some (.slice e))(hc:P.cellsOf e=1)(he:P.underlying e=some (.int k)):∃l:List Int,Row w v (l.map (.int k))∧∀n∈l,(Lit.int k n).wf=true:=by
 obtain⟨vals,hr,hall,_⟩:=zfv h ht hc
 obtain⟨m,rfl,hm⟩:=zhe (f:=fun n=>Value.int k n) (Q:=fun n=>(Lit.int k n).wf=true) (fun u hu=>by
  obtain⟨n,h1,h2⟩:=zjt (hall u hu).c he
  exact⟨n,by simpa using h1,h2⟩)
 exact⟨m,hr,hm⟩
theorem ziY{n:Int}(h:(Lit.int .u32 n).wf=true):0≤n∧n≤4294967295:=by
 simp[Lit.wf,IntKind.min,IntKind.max,IntKind.signed,IntKind.bits]at h
 omega
theorem wf_u86{n:Int}(h:(Lit.int .u8 n).wf=true):0≤n∧n≤255:=by
 simp[Lit.wf,IntKind.min,IntKind.max,IntKind.signed,IntKind.bits]at h
 omega
theorem zkz{l:List Int}(h:∀n∈l,(Lit.int .u8 n).wf=true):∃m:List UInt8,l.map (Value.int .u8)=m.map zao:=by
 induction l with
 |nil=>exact⟨[],rfl⟩
 |cons n l ih=>
  obtain⟨m,hm⟩:=ih (fun x hx=>h x (List.mem_cons_of_mem _ hx))
  have hb:=wf_u86 (h n (List.mem_cons_self ..))
  obtain⟨k,rfl⟩:∃k:Nat,n=(k:Int):=⟨n.toNat,by omega⟩
  exact⟨UInt8.ofNat k::m,by rw[List.map_cons,List.map_cons,hm,zb0 (by omega)]⟩
end
section
variable {H : Type} {enc : TypeId × Value → H} {w : World} {base : Nat} {sp : Nat → Bool} {held : Bool}
theorem wf_i64{n:Int}(h:(Lit.int .i64 n).wf=true): -9223372036854775808≤n∧n≤9223372036854775807:=by simpa [Lit.wf,IntKind.min,IntKind.max,IntKind.signed,IntKind.bits] using h
theorem rd_dataN{cs:List Value}(h:RdC enc Tryz.prog w base sp held 34 cs):∃d:DatL,DatAt w cs d∧zkS d:=by
 obtain⟨hl,hf⟩:=zhK h rfl
 have hl5:cs.length=5:=hl
 match cs,hl5 with
 | [c0,c1,c2,c3,c4],_=>
  obtain⟨ty,e0,et⟩:=zjt (hf 0 _ rfl) rfl
  obtain⟨names,n1,_⟩:=rd_names (P:=Tryz.prog) (ts:=24) (tb:=9) (RdC.one (hf 1 _ rfl)) rfl rfl rfl rfl rfl rfl
  obtain⟨nums,n2,n3⟩:=zhJ (RdC.one (hf 2 _ rfl)) rfl rfl rfl
  obtain⟨texts,n4,_⟩:=zfw (P:=Tryz.prog) (RdC.one (hf 3 _ rfl)) (e:=9) rfl rfl rfl rfl
  obtain⟨raw,n5,n6⟩:=zhJ (RdC.one (hf 4 _ rfl)) rfl rfl rfl
  obtain⟨rb,hrb⟩:=zkz n6
  rw[hrb]at n5
  have e0':c0=vi ty:=List.head_eq_of_cons_eq (show [c0]=[vi ty] from e0)
  exact⟨⟨ty,names,nums,texts,rb⟩,⟨c1,c2,c3,c4,by rw[e0'],n1,n2,n4,n5⟩,fun n hn=>ziY (n3 n hn),wf_i64 et⟩
theorem rd_recN{cs:List Value}(h:RdC enc Tryz.prog w base sp held 36 cs):∃r:RecL,RecAt w cs r∧zkR r:=by
 obtain⟨hl,hf⟩:=zhK h rfl
 have hl7:cs.length=7:=hl
 match cs,hl7 with
 | [c0,c1,c2,c3,c4,c5,c6],_=>
  obtain⟨owner,n0,_⟩:=zfw (P:=Tryz.prog) (RdC.one (hf 0 _ rfl)) (e:=9) rfl rfl rfl rfl
  obtain⟨ttl,e1,et⟩:=zjt (hf 1 _ rfl) rfl
  obtain⟨d,hd,hn⟩:=rd_dataN (hf 2 _ rfl)
  have e1':c1=v32 ttl:=List.head_eq_of_cons_eq (show [c1]=[v32 ttl] from e1)
  have hd':DatAt w [c2,c3,c4,c5,c6] d:=hd
  exact⟨⟨owner,ttl,d⟩,⟨c0,[c2,c3,c4,c5,c6],by rw[e1'],n0,hd'⟩,hn,ziY et⟩
theorem rd_recsN{v:Value}(h:Rd enc Tryz.prog w base sp held 22 v):∃R:List RecL,Rows 7 (RecAt w) w v R∧∀r∈R,zkR r:=by
 obtain⟨L,hL,hall,_⟩:=zjs h (e:=36) (k:=7) rfl rfl
 have:∀L:List (List Value),(∀cs∈L,RdC enc Tryz.prog w base sp held 36 cs)→∃R:List RecL,L.length=R.length∧(∀i (h:i<L.length) (h':i<R.length),RecAt w L[i] R[i])∧∀r∈R,zkR r:=fun L=>by
  induction L with
  |nil=>intro _;exact⟨[],rfl,fun i h=>by simp at h,fun r h=>by cases h⟩
  |cons cs L ih=>
   intro h
   obtain⟨r,h1,h2⟩:=rd_recN (h cs (List.mem_cons_self ..))
   obtain⟨R,a1,a2,a3⟩:=ih (fun x hx=>h x (List.mem_cons_of_mem _ hx))
   refine⟨r::R,by simp[a1],fun i a b=>?_,fun x hx=>?_⟩
   ·cases i with
    |zero=>exact h1
    |succ i=>exact a2 i (by simpa using a) (by simpa using b)
   ·rcases List.mem_cons.1 hx with rfl|hx
    ·exact h2
    ·exact a3 x hx
 obtain⟨R,a1,a2,a3⟩:=this L hall
 exact⟨R,⟨L,hL,a1,a2⟩,a3⟩
end
set_option maxRecDepth 10000
theorem DatAt.cells{w0:World}{cs:List Value}{d:DatL}(h:DatAt w0 cs d):∃nm,cs[0]? =some (vi d.ty)∧cs[1]? =some nm∧NamesAt w0 nm d.names:=by
 obtain⟨nm,nu,tx,rw',rfl,h1,_⟩:=h.ex
 exact⟨nm,rfl,rfl,h1⟩
theorem zbt{w:World}{p:Option Addr}{k j:Nat}{cs:List Value}{u:Value}(h:zar w p k=some cs)(hj:cs[j]? =some u):zad w (adr p j)=some u:=by
 obtain⟨hj1,hj2⟩:=List.getElem?_eq_some_iff.1 hj
 have:=zaW h hj1
 rw[hj2]at this;exact this
section
variable {P : Program} {d : Option Tmp} {ty : TypeId} {ps : String} {af : Array Edge} {g : Option (Nat × Bool)} {ρ : Operand → Value} {w : World} {K : Value → World → Prop}
end
theorem Rows.low{α:Type}{k D:Nat}{C:List Value→α→Prop}{w x:World}{v:Value}{xs:List α}{S:Nat→Prop}(h:Rows k C w v xs)(hlow:∀a n c,v= .slice (some a) n c→a.block<D)(hk:Keep S w x)(hS:∀b,b<D→¬S b)(hD:D≤w.heap.size):Rows k C x v xs:=
 h.blocks fun a n c hv=>hk.block _ (by have:=hlow a n c hv;omega) (hS _ (hlow a n c hv))
theorem Row.low{D:Nat}{w x:World}{v:Value}{l:List Value}{S:Nat→Prop}(h:Row w v l)(hlow:∀a n c,v= .slice (some a) n c→a.block<D)(hk:Keep S w x)(hS:∀b,b<D→¬S b)(hD:D≤w.heap.size):Row x v l:=
 h.blocks fun a n c hv=>hk.block _ (by have:=hlow a n c hv;omega) (hS _ (hlow a n c hv))
theorem off_of{y:Addr}{n:Nat}(h:y.block<n):offS (zc3 n) (some y):=fun a ha hb=>by
 cases ha
 unfold zc3 at hb
 exact absurd (show n≤y.block from hb) (by omega)
theorem Rows.mapM{α β:Type}{k:Nat}{C:List Value→α→Prop}{C':List Value→β→Prop}{w:World}{v:Value}{xs:List α}(h:Rows k C w v xs)(f:α→β)(hC:∀cs x,x∈xs→C cs x→C' cs (f x)):Rows k C' w v (xs.map f):=by
 obtain⟨L,h1,h2,h3⟩:=h
 refine⟨L,h1,by rw[List.length_map];exact h2,fun i h h'=>?_⟩
 rw[List.length_map]at h'
 rw[List.getElem_map]
 exact hC _ _ (List.getElem_mem h') (h3 i h h')
theorem zjS(w:World):Row w (.slice Option.none 0 0) (([]:Nm).map vs):=⟨Option.none,0,rfl,Nat.le_refl _,fun j h=>absurd h (by simp)⟩
def ziA(n:Nm):Bool:=few n && decide (zaE n=0)
theorem zco{n:Nm}(h:zaE n=0):∀l∈n,l≠ []∧l.length≤63:=by
 intro l hl
 unfold zaE at h
 cases hf:n.find? (fun l=>decide (errL l≠0)) with
 |some x=>
  rw[hf]at h
  have:=List.find?_some hf
  simp only[decide_eq_true_eq]at this
  exact absurd h this
 |none=>
  have:=List.find?_eq_none.1 hf l hl
  simp only[decide_eq_true_eq,Decidable.not_not]at this
  unfold errL at this
  split at this
  ·cases this
  ·rename_i h0
   refine⟨h0,?_⟩
   split at this
   ·cases this
   ·omega
theorem sum_ge:∀n:Nm,n.length≤(n.map fun l=>1+l.length).sum
 | []=>Nat.zero_le _
 |a::n=>by
  have ih:=sum_ge n
  rw[List.map_cons,List.sum_cons]
  have e:(a::n).length=n.length+1:=rfl
  omega
theorem zfd{n:Nm}(h:zaE n=0):n.length≤255:=by
 have hl:=zco h
 unfold zaE at h
 split at h
 ·rename_i x hf
  have:=List.find?_some hf
  simp only[decide_eq_true_eq]at this
  exact absurd h this
 ·split at h
  ·cases h
  ·rename_i h2
   unfold lenN at h2
   have:=sum_ge n
   omega
theorem NGood_ok(w:World)(a:Value)(xs:Nm)(ha:Row w a (xs.map vs)):
  Fn Tryz.prog 10 #[a] w (fun v w'=>v= .bool (ziA xs)∧Ext w w'):=by
 refine enter Tryz.func10 Tryz.ntmps10 rfl rfl ?_
 repeat refine c_r ?_
 refine rg0 ?_
 repeat refine c_r ?_
 cases hf:few xs with
 |true=>
  refine rq ?_;intro gd K hgd hK
  have hg2:∀n σ b,zaw gd n σ (some (2,b))=zap (ev n σ (.tmp 5)) b:=(fun n σ b=>by rw[zag,show gd 2=some 5 from(by rw[hgd];rfl)];rfl)
  try simp only[go_sem]
  refine Fn.mono (zg0 w a xs ha) ?_
  rintro _ w1 ⟨rfl,hE1⟩
  rw[hf]
  try simp (disch:=first|omega|assumption|rfl) only[go_sem,↓hg2]
  refine Fn.mono (zbL w1 a xs (ha.ext hE1) (fun l hl=>by
   have:=few_lb hf l hl
   simp only[few,Bool.and_eq_true,List.all_eq_true,decide_eq_true_eq]at hf
   have:=hf.2 l hl
   omega) (by have:=few_len hf;omega)) ?_
  rintro _ w2 ⟨rfl,hE2⟩
  try simp (disch:=first|omega|assumption|rfl) only[go_sem,↓hg2]
  refine hK _ _ ?_;clear hK hgd;clear K;try clear gd
  repeat refine c_r ?_
  refine rt0 Tryz.ntmps10 ?_
  refine⟨?_,hE1.trans hE2⟩
  unfold ziA
  rw[hf,Bool.true_and]
 |false=>
  refine rq ?_;intro gd K hgd hK
  have hg2:∀n σ b,zaw gd n σ (some (2,b))=zap (ev n σ (.tmp 5)) b:=(fun n σ b=>by rw[zag,show gd 2=some 5 from(by rw[hgd];rfl)];rfl)
  try simp only[go_sem]
  refine Fn.mono (zg0 w a xs ha) ?_
  rintro _ w1 ⟨rfl,hE1⟩
  rw[hf]
  try simp (disch:=first|omega|assumption|rfl) only[go_sem,↓hg2]
  refine hK _ _ ?_;clear hK hgd;clear K;try clear gd
  repeat refine c_r ?_
  refine rt0 Tryz.ntmps10 ?_
  refine⟨?_,hE1⟩
  unfold ziA
  rw[hf,Bool.false_and]
theorem zb1(b:Bool):zap undef b=false:=nr rfl
structure DatF(d:DatL):Prop where
 names:∀n∈d.names,(∀l∈n,l.length≤1000000000)∧n.length≤1000000000
 nn:d.names.length≤1000000000
 nu:d.nums.length≤1000000000
 nt:d.texts.length≤1000000000
 tl:∀l∈d.texts,l.length≤1000000000
 nr:d.raw.length≤1000000000
 n8:d.names.length≤8
 f4:d.nums.length≤12∧d.texts.length≤40∧(∀l∈d.texts,l.length≤300)∧d.raw.length≤1100∧∀n∈d.names,few n=true
structure DatX(w0:World)(B:Nat)(A:World)(nm:Value)(cs:List Value)(d:DatL):Prop where
 ex:∃nu tx rw vals,cs=[vi d.ty,nm,nu,tx,rw]∧Row A nm vals∧vals.length=d.names.length∧(∀i (h:i<vals.length) (h':i<d.names.length),Row w0 vals[i] (d.names[i].map vs))∧Row w0 nu (d.nums.map v32)∧Row w0 tx (d.texts.map vs)∧Row w0 rw (d.raw.map zao)
 blk:BlkB B A nm
theorem DatX.at{w0 A:World}{B:Nat}{nm:Value}{cs:List Value}{d:DatL}(h:DatX w0 B A nm cs d)(hE:Ext w0 A):DatAt A cs d:=by
 obtain⟨nu,tx,rw,vals,e,h1,h2,h3,h4,h5,h6⟩:=h.ex
 exact⟨nm,nu,tx,rw,e,⟨vals,h1,h2,fun i a b=>(h3 i a b).ext hE⟩,h4.ext hE,h5.ext hE,h6.ext hE⟩
theorem DatX.keep{w0 A x:World}{B:Nat}{nm:Value}{cs:List Value}{d:DatL}(h:DatX w0 B A nm cs d){S:Nat→Prop}(hk:Keep S A x)(hS:∀a n c,nm= .slice (some a) n c→¬S a.block):DatX w0 B x nm cs d:=by
 obtain⟨nu,tx,rw,vals,e,h1,h2,h3,h4,h5,h6⟩:=h.ex
 exact⟨⟨nu,tx,rw,vals,e,h1.blocks fun a n c hv=>hk.block _ (h.blk a n c hv).2 (hS a n c hv),h2,h3,h4,h5,h6⟩,h.blk.ext hk.size⟩
theorem DatX.mono{w0 A:World}{B B':Nat}{nm:Value}{cs:List Value}{d:DatL}(h:DatX w0 B A nm cs d)(hB:B'≤B):DatX w0 B' A nm cs d:=⟨h.ex,h.blk.mono hB⟩
theorem DOf_ok{w0 w:World}(hE0:Ext w0 w){cs:List Value}{d:DatL}(hd:DatAt w0 cs d)(hnn:d.names.length≤1000000000):
  Fn Tryz.prog 32 #[.agg cs.toArray] w (fun v w'=>Ext w w'∧∃cs' nm,v= .agg cs'.toArray∧DatX w0 w.heap.size w' nm cs' d):=by
 obtain⟨nm,nu,tx,rw',rfl,⟨vals,⟨an,cn,rfl,hcn,hgn⟩,hvl,hvr⟩,hnu,htx,hrw⟩:=hd.ex
 obtain⟨au,cu,rfl,_⟩:=id hnu
 obtain⟨at1,ct,rfl,_⟩:=id htx
 obtain⟨ar,cr,rfl,_⟩:=id hrw
 refine enter Tryz.func32 Tryz.ntmps32 rfl rfl ?_
 repeat refine c_r ?_
 refine rg0 ?_
 repeat refine c_r ?_
 rw[zaB]
 refine zc1 ?_
 intro w1 hE1 hs1 hA hC
 have p0:zad w1 (some ⟨w.heap.size,0,Option.none⟩)=some (vi d.ty):=zaa hA rfl
 have p1:zad w1 (some ⟨w.heap.size,1,Option.none⟩)=some (.slice an vals.length cn):=zaa hA rfl
 have p2:zad w1 (some ⟨w.heap.size,2,Option.none⟩)=some (.slice au (d.nums.map v32).length cu):=zaa hA rfl
 have p3:zad w1 (some ⟨w.heap.size,3,Option.none⟩)=some (.slice at1 (d.texts.map vs).length ct):=zaa hA rfl
 have p4:zad w1 (some ⟨w.heap.size,4,Option.none⟩)=some (.slice ar (d.raw.map zao).length cr):=zaa hA rfl
 refine rq ?_;intro gd K hgd hK
 try simp (disch:=first|omega|assumption|rfl) only[go_sem,p0,p2,p3,p4,Nat.add_zero,Nat.zero_add]
 refine⟨by kernel_rfl,?_⟩
 rw[show bdV Tryz.prog 40 [(0,vi d.ty),(2,.slice au (d.nums.map v32).length cu),(3,.slice at1 (d.texts.map vs).length ct),(4,.slice ar (d.raw.map zao).length cr)]=some (.agg #[vi d.ty,.slice Option.none 0 0,.slice au (d.nums.map v32).length cu,.slice at1 (d.texts.map vs).length ct,.slice ar (d.raw.map zao).length cr]) from by kernel_rfl]
 try simp only[go_sem]
 have hB3:=zaC w1 (.cells #[vi 0,.slice Option.none 0 0,.slice Option.none 0 0,.slice Option.none 0 0,.slice Option.none 0 0] 40 (0,0))
 have hE4:=Ext.alloc w1 (.cells #[vi 0,.slice Option.none 0 0,.slice Option.none 0 0,.slice Option.none 0 0,.slice Option.none 0 0] 40 (0,0))
 have hs4:=zaB w1 (.cells #[vi 0,.slice Option.none 0 0,.slice Option.none 0 0,.slice Option.none 0 0,.slice Option.none 0 0] 40 (0,0))
 revert hB3 hE4 hs4
 generalize w1.alloc (.cells #[vi 0,.slice Option.none 0 0,.slice Option.none 0 0,.slice Option.none 0 0,.slice Option.none 0 0] 40 (0,0))=w2
 intro hB3 hE4 hs4
 refine zaK (P:=Tryz.prog) (t:=40) (l:=[vi d.ty,.slice Option.none 0 0,.slice au (d.nums.map v32).length cu,.slice at1 (d.texts.map vs).length ct,.slice ar (d.raw.map zao).length cr]) hB3 rfl (fun v h=>by simp at h;rcases h with rfl|rfl|rfl|rfl|rfl<;>rfl) rfl rfl ?_
 intro w3 hs5 hB5 hk5
 try simp only[go_sem]
 refine hK _ _ ?_;clear hK hgd;clear K;try clear gd
 have hE13:Ext w1 w3:=Keep.to_ext hE4 rfl (fun b hb=>by omega) hk5
 obtain⟨b3,hb3⟩:∃b3,w1.heap.size=b3:=⟨_,rfl⟩
 rw[hb3]at hB5
 have hs3:w3.heap.size=b3+1:=by omega
 repeat refine c_r ?_
 refine rg0 ?_
 repeat refine c_r ?_
 rw[hb3]
 refine za5 (fun m σ ds A=>ds=[]∧∃(i:Nat) (nv:Value),i+m=vals.length∧σ 4=vi i∧σ 1= .pointer (some ⟨w.heap.size,0,Option.none⟩)∧σ 2= .pointer (some ⟨w.heap.size+1,0,Option.none⟩)∧σ 3= .pointer (some ⟨b3,0,Option.none⟩)∧A.heap[b3]? =some (.cells [vi d.ty,nv,.slice au (d.nums.map v32).length cu,.slice at1 (d.texts.map vs).length ct,.slice ar (d.raw.map zao).length cr].toArray 40 (0,0))∧Own w3.heap.size A 23 nv (vals.take i)∧Ext w1 A∧w3.heap.size≤A.heap.size) vals.length ?_ ?_
 ·exact⟨rfl,0,.slice Option.none 0 0,by omega,vr0,vq0,vq0,vq0,hB5,Own.nil _ _ _,hE13,Nat.le_refl _⟩
 rintro m σ ds A ⟨rfl,i,nv,him,h4,h1,h2,h3,hb,hown,hEA,hsA⟩
 have q1:=zab hEA p1
 have s1:=hE1.size
 repeat refine c_r ?_
 refine rg4 h4 h1 q1 Nat.zero_add ?_
 repeat refine c_r ?_
 refine wc0 ?_ ?_
 ·intro hlt
  simp only[decide_eq_true_eq]at hlt
  have hi:i<vals.length:=by omega
  have hi0:(0:Int)≤(i:Int):=by omega
  have hi1:(i:Int)<(vals.length:Int):=by omega
  have hi1':(i:Int)+1=((i+1:Nat):Int):=by push_cast;rfl
  have hgi:=hgn i hi
  obtain⟨xN,rfl⟩:=Option.isSome_iff_exists.1 (zam hgi)
  obtain⟨xi,hxi⟩:∃xi,adr (some xN) i=some xi:=⟨_,rfl⟩
  rw[hxi]at hgi
  have hgA:=zab (hE0.trans (hE1.trans hEA)) hgi
  have hxb:xi.block<w3.heap.size:=by
   have:=zeM (show w0.cell? xi=some _ from hgi)
   have:=(hE0.trans (hE1.trans hE13)).size
   omega
  have hrow:=hvr i hi (by omega)
  obtain⟨hv,hhv⟩:∃hv,vals[i]=hv:=⟨_,rfl⟩
  rw[hhv]at hgA hrow
  obtain⟨ha,hc,hve,_⟩:=id hrow
  have hone:one hv=true:=by rw[hve];rfl
  have htk:vals.take (i+1)=vals.take i++ [hv]:=by rw[zak hi,hhv]
  have hnv:zad A (some ⟨b3,1,Option.none⟩)=some nv:=za1 hb rfl
  have hvals:(vals.take i).length≤1000000000:=by rw[List.length_take];omega
  repeat refine c_r ?_
  refine zaT (fun i=>i==10) [(0,true),(1,true),(2,true),(3,true),(4,true),(5,true),(6,true),(7,false),(8,false),(9,true),(10,false)] (zc3 w3.heap.size) mixed (by kernel_rfl) ?_;intro gd K x hgd hx hxe hK;have hx0:=zaR hxe;clear hxe
  have hgx:=zab hx0 hgA
  have hnx:=zab hx0 hnv
  have q1x:=zab hx0 q1
  have hxs:=hx.size
  simp (disch:=first|omega|assumption|rfl) only[go_sem,h4,h1,h3,q1x,hgx,hnx,hi0,hi1,hxi,Nat.zero_add,Nat.mul_one]
  refine⟨zbq (by omega),zbq (by omega),off_of hxb,?_⟩
  refine zbc (z:= .slice Option.none 0 0) (v:=hv) (by rfl) (by rfl) (by rfl) (by rfl) (by rw[hve];rfl) ?_
  intro w5 hE5 hs5 ho5
  refine⟨.inr hE5.keep,?_⟩
  simp (disch:=first|omega|assumption|rfl) only[go_sem]
  have hx5:=hx0.trans hE5
  have hx5s:=hx5.size
  refine za0 (hown.ext hx5) ho5.row rfl rfl rfl rfl rfl rfl (vr0) (vr0) (fun q hq=>by rw[List.mem_singleton.1 hq];exact hone) (by rw[List.length_singleton];omega) (by decide) (by omega) ?_
  intro v7 w7 ho7 hE7 hk7 hb7
  refine⟨.inr (hk7.mono fun b _ hb=>by have:=(hown.ge hb).1;show _≤_;omega),?_⟩
  simp (disch:=first|omega|assumption|rfl) only[go_sem,h3]
  have hk7s:=hk7.size
  obtain⟨a7,c7,hv7⟩:=ho7.slice
  have hb3w:w7.heap[b3]? =some (.cells [vi d.ty,nv,.slice au (d.nums.map v32).length cu,.slice at1 (d.texts.map vs).length ct,.slice ar (d.raw.map zao).length cr].toArray 40 (0,0)):=(hk7.block b3 (by omega) (fun h=>by have:=(hown.ge h).1;omega)).trans (Ext.at hx5 hb)
  refine zcw (P:=Tryz.prog) (t:=38) (j:=1) (l:=[vi d.ty,nv,.slice au (d.nums.map v32).length cu,.slice at1 (d.texts.map vs).length ct,.slice ar (d.raw.map zao).length cr]) hb3w (by simp) (by rw[hv7];rfl) rfl rfl ?_
  intro z hz' hbz hkz
  refine⟨.inl rfl,?_⟩
  simp (disch:=first|omega|assumption|rfl) only[go_sem]
  refine hK _ _ ?_;clear hK hgd;clear K;try clear gd
  have hEz:Ext w1 z:=Keep.to_ext (hE7 w1 (hEA.trans hx5) (by omega)) rfl (fun b hb=>by omega) hkz
  repeat refine c_r ?_
  refine rg2 h4 hi1' ?_
  repeat refine c_r ?_
  exact⟨m - 1,by omega,rfl,i+1,v7,by omega,vq0,(vq1 h1),(vq1 h2),(vq1 h3),hbz,by rw[htk];exact ho7.keep hkz (fun b hb h=>by have:=(ho7.ge hb).1;omega),hEz,by omega⟩
 ·intro hge
  simp only[decide_eq_false_iff_not]at hge
  have hi:i=vals.length:=by omega
  rw[hi,List.take_length]at hown
  obtain⟨na,nc,hnv⟩:=hown.slice
  repeat refine c_r ?_
  refine rq ?_;intro gd K hgd hK
  have d5:=zaj (n:=5) hb rfl
  try simp (disch:=first|omega|assumption|rfl) only[go_sem,h3,h2,d5]
  refine zaK (P:=Tryz.prog) (t:=40) (l:=[vi d.ty,nv,.slice au (d.nums.map v32).length cu,.slice at1 (d.texts.map vs).length ct,.slice ar (d.raw.map zao).length cr]) (Ext.at hEA hC) rfl (fun v h=>by
   simp at h
   rcases h with rfl|rfl|rfl|rfl|rfl
   ·rfl
   ·rw[hnv];rfl
   ·rfl
   ·rfl
   ·rfl) rfl rfl ?_
  intro z hz' hbz hkz
  try simp only[go_sem]
  refine hK _ _ ?_;clear hK hgd;clear K;try clear gd
  repeat refine c_r ?_
  refine zaf (.inr rfl) Tryz.ntmps32 rfl (zaO (x:=⟨w.heap.size+1,0,Option.none⟩) (k:=5) ((vq1 h2)) rfl rfl (zaj hbz rfl) zae) ?_
  have hEz:Ext w z:=Keep.to_ext (hE1.trans hEA) rfl (fun b hb=>by omega) hkz
  have hownz:=hown.keep hkz (fun b hb h=>by have:=(hown.ge hb).1;omega)
  refine⟨hEz,_,nv,rfl,⟨⟨_,_,_,vals,rfl,hownz.row,hvl,hvr,hnu,htx,hrw⟩,fun a n c hv=>?_⟩⟩
  have:=hownz.ge (b:=a.block) (by rw[hv];rfl)
  omega
theorem DatAt.open{w:World}{cs:List Value}{d:DatL}(h:DatAt w cs d):∃a1 n1 c1 a2 n2 c2 a3 n3 c3 a4 n4 c4,cs=[vi d.ty,.slice a1 n1 c1,.slice a2 n2 c2,.slice a3 n3 c3,.slice a4 n4 c4]:=by
 obtain⟨nm,nu,tx,rw',rfl,⟨vals,⟨an,cn,rfl,_⟩,_⟩,⟨au,cu,rfl,_⟩,⟨at1,ct,rfl,_⟩,⟨ar,cr,rfl,_⟩⟩:=h.ex
 exact⟨_,_,_,_,_,_,_,_,_,_,_,_,rfl⟩
theorem DatX.open{w0 A:World}{B:Nat}{nm:Value}{cs:List Value}{d:DatL}(h:DatX w0 B A nm cs d):∃a1 n1 c1 a2 n2 c2 a3 n3 c3 a4 n4 c4,cs=[vi d.ty,.slice a1 n1 c1,.slice a2 n2 c2,.slice a3 n3 c3,.slice a4 n4 c4]:=by
 obtain⟨nu,tx,rw,vals,e,⟨a1,c1,rfl,_⟩,h2,h3,⟨a4,c4,rfl,_⟩,⟨a5,c5,rfl,_⟩,⟨a6,c6,rfl,_⟩⟩:=h.ex
 exact⟨_,_,_,_,_,_,_,_,_,_,_,_,e⟩
structure RecX(w0:World)(B:Nat)(A:World)(nm:Value)(cs:List Value)(r:RecL):Prop where
 ex:∃ow ds,cs=ow::v32 r.ttl::ds∧Row w0 ow (r.owner.map vs)∧DatX w0 B A nm ds r.dat
theorem RecX.at{w0 A:World}{B:Nat}{nm:Value}{cs:List Value}{r:RecL}(h:RecX w0 B A nm cs r)(hE:Ext w0 A):RecAt A cs r:=by
 obtain⟨ow,ds,e,h1,h2⟩:=h.ex
 exact⟨ow,ds,e,h1.ext hE,h2.at hE⟩
theorem RecX.keep{w0 A x:World}{B:Nat}{nm:Value}{cs:List Value}{r:RecL}(h:RecX w0 B A nm cs r){S:Nat→Prop}(hk:Keep S A x)(hS:∀a n c,nm= .slice (some a) n c→¬S a.block):RecX w0 B x nm cs r:=by
 obtain⟨ow,ds,e,h1,h2⟩:=h.ex
 exact⟨ow,ds,e,h1,h2.keep hk hS⟩
theorem RecX.mono{w0 A:World}{B B':Nat}{nm:Value}{cs:List Value}{r:RecL}(h:RecX w0 B A nm cs r)(hB:B'≤B):RecX w0 B' A nm cs r:=by
 obtain⟨ow,ds,e,h1,h2⟩:=h.ex
 exact⟨ow,ds,e,h1,h2.mono hB⟩
theorem RecX.blk{w0 A:World}{B:Nat}{nm:Value}{cs:List Value}{r:RecL}(h:RecX w0 B A nm cs r):BlkB B A nm:=by
 obtain⟨ow,ds,e,h1,h2⟩:=h.ex
 exact h2.blk
theorem RecX.cells{w0 A:World}{B:Nat}{nm:Value}{cs:List Value}{r:RecL}(h:RecX w0 B A nm cs r):cs.length=7∧∀q∈cs,one q=true:=by
 obtain⟨ow,ds,e,⟨a,c,rfl,_⟩,h2⟩:=h.ex
 obtain⟨b1,m1,e1,b2,m2,e2,b3,m3,e3,b4,m4,e4,hds⟩:=h2.open
 rw[e,hds]
 refine⟨rfl,fun q hq=>?_⟩
 simp at hq
 rcases hq with rfl|rfl|rfl|rfl|rfl|rfl|rfl<;>rfl
theorem zkN{w0 w:World}(hE0:Ext w0 w){cs:List Value}{r:RecL}(hr:RecAt w0 cs r)(hnn:r.dat.names.length≤1000000000):
  Fn Tryz.prog 13 #[.agg cs.toArray] w (fun v w'=>Ext w w'∧∃cs' nm,v= .agg cs'.toArray∧RecX w0 w.heap.size w' nm cs' r):=by
 obtain⟨ow,ds,rfl,h1,h2⟩:=hr.ex
 obtain⟨oa,oc,how,_⟩:=id h1
 obtain⟨on,hon⟩:∃on,(r.owner.map vs).length=on:=⟨_,rfl⟩
 rw[hon]at how
 obtain⟨b1,m1,e1,b2,m2,e2,b3,m3,e3,b4,m4,e4,hds⟩:=h2.open
 rw[hds,how]
 refine enter Tryz.func13 Tryz.ntmps13 rfl rfl ?_
 repeat refine c_r ?_
 refine rg0 ?_
 repeat refine c_r ?_
 rw[zaB]
 refine zc1 ?_
 intro w1 hE1 hs1 hA hC
 have p0:zad w1 (some ⟨w.heap.size,0,Option.none⟩)=some (.slice oa on oc):=zaa hA rfl
 have p1:zad w1 (some ⟨w.heap.size,1,Option.none⟩)=some (v32 r.ttl):=zaa hA rfl
 have p2:zar w1 (some ⟨w.heap.size,2,Option.none⟩) 5=some [vi r.dat.ty,.slice b1 m1 e1,.slice b2 m2 e2,.slice b3 m3 e3,.slice b4 m4 e4]:=by
  have h7:=zaj (n:=7) (l:=[.slice oa on oc,v32 r.ttl,vi r.dat.ty,.slice b1 m1 e1,.slice b2 m2 e2,.slice b3 m3 e3,.slice b4 m4 e4]) hA rfl
  have:=zbb (m:=2) (k:=5) h7
  rwa [zaY]at this
 refine zaT (fun i=>i==8) [(0,true),(1,true),(2,true),(3,true),(4,true),(5,true),(6,false),(7,true),(8,false)] NoS mixed (by kernel_rfl) ?_;intro gd K x hgd hx hxe hK;clear hxe
 have p0x:=zab hx p0
 have p1x:=zab hx p1
 have p2x:=zah hx p2
 have hxs:=hx.size
 simp (disch:=first|omega|assumption|rfl) only[go_sem,p0x,p1x,p2x,Nat.add_zero,Nat.zero_add]
 rw[←hds]
 refine Fn.mono (DOf_ok (hE0.trans (hE1.trans hx)) h2 hnn) ?_
 rintro _ w2 ⟨hE2,cs',nm',rfl,hd'⟩
 refine⟨.inr hE2,?_⟩
 obtain⟨b1',m1',e1',b2',m2',e2',b3',m3',e3',b4',m4',e4',hds'⟩:=hd'.open
 rw[hds']
 simp (disch:=first|omega|assumption|rfl) only[go_sem,p0x,p1x,p2x,Nat.add_zero,Nat.zero_add]
 refine⟨by kernel_rfl,?_⟩
 rw[show bdV Tryz.prog 42 [(0,.slice oa on oc),(1,v32 r.ttl),(2,.agg [vi r.dat.ty,.slice b1' m1' e1',.slice b2' m2' e2',.slice b3' m3' e3',.slice b4' m4' e4'].toArray)]=some (.agg #[.slice oa on oc,v32 r.ttl,vi r.dat.ty,.slice b1' m1' e1',.slice b2' m2' e2',.slice b3' m3' e3',.slice b4' m4' e4']) from by kernel_rfl]
 simp (disch:=first|omega|assumption|rfl) only[go_sem]
 refine zaK (P:=Tryz.prog) (t:=42) (l:=[.slice oa on oc,v32 r.ttl,vi r.dat.ty,.slice b1' m1' e1',.slice b2' m2' e2',.slice b3' m3' e3',.slice b4' m4' e4']) (Ext.at (hx.trans hE2) hC) rfl (fun v h=>by simp at h;rcases h with rfl|rfl|rfl|rfl|rfl|rfl|rfl<;>rfl) rfl rfl ?_
 intro z hz' hbz hkz
 refine⟨.inl rfl,?_⟩
 simp (disch:=first|omega|assumption|rfl) only[go_sem]
 refine hK _ _ ?_;clear hK hgd;clear K;try clear gd
 repeat refine c_r ?_
 refine zaf (.inr rfl) Tryz.ntmps13 rfl (zaO (x:=⟨w.heap.size+1,0,Option.none⟩) (k:=7) (vq0) rfl rfl (zaj hbz rfl) zae) ?_
 have hEz:Ext w z:=Keep.to_ext (hE1.trans (hx.trans hE2)) rfl (fun b hb=>by omega) hkz
 refine⟨hEz,_,nm',rfl,⟨ow,cs',?_,h1,?_⟩⟩
 ·rw[how,hds']
 ·exact(hd'.keep hkz (fun a n c hv=>by have:=hd'.blk a n c hv;omega)).mono (by omega)
abbrev OX:=RecL×(Value×List Value)
def oxC(cs:List Value)(x:OX):Prop:=cs=x.2.2∧cs.length=7∧∀q∈cs,one q=true
theorem zhQ:zgU 7 oxC:=⟨fun h=>h.2.1,fun h=>h.2.2⟩
structure OI(w0:World)(B:Nat)(A:World)(ov:Value)(G:List OX):Prop where
 own:Owns 7 oxC B A 42 ov G
 row:∀x∈G,RecX w0 B A x.2.1 x.2.2 x.1∧∀a n c,x.2.1= .slice (some a) n c→some a.block≠ov.ownBlock
theorem OI.ext{w0 A A':World}{B:Nat}{ov:Value}{G:List OX}(h:OI w0 B A ov G)(hE:Ext A A'):OI w0 B A' ov G:=
 ⟨h.own.ext hE,fun x hx=>by
  obtain⟨h1,h2⟩:=h.row x hx
  exact⟨h1.keep hE (fun a n c hv h=>h),h2⟩⟩
theorem OI.app{w0 A A':World}{B:Nat}{ov v':Value}{G:List OX}{s:OX}(h:OI w0 B A ov G)(hs:RecX w0 B A s.2.1 s.2.2 s.1∧∀a n c,s.2.1= .slice (some a) n c→some a.block≠ov.ownBlock)
  (ho:Owns 7 oxC B A' 42 v' (G++ [s])) (hk:Keep (fun b=>some b=ov.ownBlock) A A') (hb:∀b,some b=v'.ownBlock→some b=ov.ownBlock∨A.heap.size≤b):OI w0 B A' v' (G++ [s]):=by
 refine⟨ho,fun y hy=>?_⟩
 have hy2:RecX w0 B A y.2.1 y.2.2 y.1∧∀a n c,y.2.1= .slice (some a) n c→some a.block≠ov.ownBlock:=by
  rcases List.mem_append.1 hy with hy|hy
  ·exact h.row y hy
  ·rw[List.mem_singleton.1 hy];exact hs
 obtain⟨h1,h2⟩:=hy2
 refine⟨h1.keep hk h2,fun a n c hv e=>?_⟩
 rcases hb _ e with e|e
 ·exact h2 a n c hv e
 ·have:=(h1.blk a n c hv).2;omega
theorem zkQ{w0 w:World}(hE0:Ext w0 w){lv:Value}{R:List RecL}(hl:Rows 7 (RecAt w0) w lv R)(hnn:∀r∈R,r.dat.names.length≤1000000000)(hlen:R.length≤1000000000):
  Fn Tryz.prog 16 #[lv] w (fun v w'=>Ext w w'∧∃G:List OX,OI w0 w.heap.size w' v G∧G.map Prod.fst=R):=by
 obtain⟨aR,cR,rfl,hcR,hgR⟩:=hl.open
 refine enter Tryz.func16 Tryz.ntmps16 rfl rfl ?_
 repeat refine c_r ?_
 refine rg0 ?_
 repeat refine c_r ?_
 refine rg0 ?_
 repeat refine c_r ?_
 refine rg0 ?_
 repeat refine c_r ?_
 refine za5 (fun m σ ds A=>ds=[]∧∃(i:Nat) (ov:Value) (G:List OX),i+m=R.length∧σ 4=vi i∧σ 3=ov∧σ 0= .slice aR R.length cR∧Ext w A∧OI w0 w.heap.size A ov G∧G.map Prod.fst=R.take i) R.length ?_ ?_
 ·exact⟨rfl,0,.slice Option.none 0 0,[],by omega,vr0,vq0,vq0,Keep.refl _ _,⟨Owns.nil _ _ _ _ _,fun x h=>absurd h (by simp)⟩,rfl⟩
 rintro m σ ds A ⟨rfl,i,ov,G,him,h4,h3,h0,hEA,hOI,hG⟩
 repeat refine c_r ?_
 refine rg2 h4 h0 ?_
 repeat refine c_r ?_
 refine wc0 ?_ ?_
 ·intro hlt
  simp only[decide_eq_true_eq]at hlt
  have hi:i<R.length:=by omega
  have hi0:(0:Int)≤(i:Int):=by omega
  have hi1:(i:Int)<(R.length:Int):=by omega
  have hi1':(i:Int)+1=((i+1:Nat):Int):=by push_cast;rfl
  have hGl:G.length=i:=by
   have:=congrArg List.length hG
   simp at this;omega
  obtain⟨cr,hcr,hRr⟩:=hgR i hi
  obtain⟨r,hr⟩:∃r,R[i]=r:=⟨_,rfl⟩
  rw[hr]at hRr
  have hrn:=hnn r (hr▸List.getElem_mem hi)
  obtain⟨xR,rfl⟩:=Option.isSome_iff_exists.1 (zaA hcr)
  obtain⟨xi,hxi⟩:∃xi,adr (some xR) (i*7)=some xi:=⟨_,rfl⟩
  rw[hxi]at hcr
  have hcA:=zah hEA hcr
  repeat refine c_r ?_
  refine rq ?_;intro gd K hgd hK
  try simp (disch:=first|omega|assumption|rfl) only[go_sem,h3,h0,h4,hi0,hi1,hxi,hcA]
  refine Fn.mono (zkN (hE0.trans hEA) hRr hrn) ?_
  rintro _ A2 ⟨hA2,cs',nm',rfl,hx⟩
  have hA2s:=hA2.size
  have hEAs:=hEA.size
  try simp only[go_sem]
  refine zdR (l:=cs') (a:=((r,(nm',cs')):OX)) zhQ rfl rfl rfl rfl ⟨rfl,hx.cells.1,hx.cells.2⟩ (by decide) ?_
  intro A3 hA3 hs3 ho3
  try simp (disch:=first|omega|assumption|rfl) only[go_sem,h3]
  refine zdL zhQ ((hOI.ext hA2).ext hA3).own ho3.rows rfl rfl rfl rfl rfl rfl (by decide) (vr0) (vr0) (by simp;omega) (by decide) (by omega) ?_
  intro v7 A4 ho7 hE7 hk7 hb7
  try simp only[go_sem]
  refine hK _ _ ?_;clear hK hgd;clear K;try clear gd
  have hnew:=((hOI.ext hA2).ext hA3).app (s:=((r,(nm',cs')):OX)) ⟨(hx.keep hA3 (fun a n c hv h=>h)).mono hEAs,fun a n c hv e=>by
   have h8:=(hx.blk a n c hv).1
   have h9:=(hOI.own.ge e).2
   omega⟩ ho7 hk7 hb7
  repeat refine c_r ?_
  refine rg2 h4 hi1' ?_
  repeat refine c_r ?_
  exact⟨m - 1,by omega,rfl,i+1,v7,_,by omega,vq0,vq0,(vq1 h0),hE7 w ((hEA.trans hA2).trans hA3) (Nat.le_refl _),hnew,by rw[List.map_append,hG,zak hi,hr];rfl⟩
 ·intro hge
  simp only[decide_eq_false_iff_not]at hge
  have hi:i=R.length:=by omega
  rw[hi,List.take_length]at hG
  repeat refine c_r ?_
  refine rg1 h3 ?_
  repeat refine c_r ?_
  refine rt0 Tryz.ntmps16 ?_
  exact⟨hEA,G,hOI,hG⟩
theorem OI.rows{w0 A:World}{B:Nat}{ov:Value}{G:List OX}(h:OI w0 B A ov G)(hE:Ext w0 A):Rows 7 (RecAt A) A ov (G.map Prod.fst):=
 h.own.rows.mapM (C':=RecAt A) Prod.fst fun cs x hx hc=>by
  rw[hc.1]
  exact(h.row x hx).1.at hE
theorem zif{w0 w:World}(hE0:Ext w0 w){lv:Value}{R:List RecL}(hl:Rows 7 (RecAt w0) w lv R)(hnn:∀r∈R,r.dat.names.length≤1000000000)(hlen:R.length≤1000000000):
  Fn Tryz.prog 16 #[lv] w (fun v w'=>Ext w w'∧Rows 7 (RecAt w') w' v R):=by
 refine Fn.mono (zkQ hE0 hl hnn hlen) ?_
 rintro v w' ⟨hE,G,hOI,rfl⟩
 exact⟨hE,hOI.rows (hE0.trans hE)⟩
theorem few_f{n:Nm}(h:few n=true):(∀l∈n,l.length≤1000000000)∧n.length≤1000000000:=by
 simp only[few,Bool.and_eq_true,List.all_eq_true,decide_eq_true_eq]at h
 exact⟨fun l hl=>by have:=h.2 l hl;omega,by omega⟩
theorem DFew_ok{w0 w:World}(hE0:Ext w0 w){cs:List Value}{d:DatL}(hd:DatAt w0 cs d):
  Fn Tryz.prog 43 #[.agg cs.toArray] w (fun v w'=>Ext w w'∧∃b:Bool,v= .bool b∧(b=true→DatF d)):=by
 obtain⟨nm,nu,tx,rw',rfl,⟨vals,⟨an,cn,rfl,hcn,hgn⟩,hvl,hvr⟩,⟨au,cu,rfl,hcu,hgu⟩,⟨at1,ct,rfl,hct,hgt⟩,⟨ar,cr,rfl,hcr,hgr⟩⟩:=hd.ex
 simp only[List.length_map]at hcu hgu hct hgt hcr hgr
 simp only[List.length_map]
 refine enter Tryz.func43 Tryz.ntmps43 rfl rfl ?_
 repeat refine c_r ?_
 refine rg0 ?_
 repeat refine c_r ?_
 refine zan ?_
 intro w1 hE1 hs1 hA
 have p1:zad w1 (some ⟨w.heap.size,1,Option.none⟩)=some (.slice an vals.length cn):=zaa hA rfl
 have p2:zad w1 (some ⟨w.heap.size,2,Option.none⟩)=some (.slice au d.nums.length cu):=zaa hA rfl
 have p3:zad w1 (some ⟨w.heap.size,3,Option.none⟩)=some (.slice at1 d.texts.length ct):=zaa hA rfl
 have p4:zad w1 (some ⟨w.heap.size,4,Option.none⟩)=some (.slice ar d.raw.length cr):=zaa hA rfl
 refine zat (Q:=fun e σ' ds' v'=>e= .normal∧ds'=[]∧σ' 1= .pointer (some ⟨w.heap.size,0,Option.none⟩)∧v'=w1∧∃bb,σ' 26= .bool bb∧(bb=false→vals.length≤8∧d.nums.length≤12∧d.texts.length≤40∧d.raw.length≤1100)) ?_ ?_
 ·by_cases hA1:(vals.length:Int)>8
  ·refine rq ?_;intro gd K hgd hK
   have hg4:∀n σ b,zaw gd n σ (some (4,b))=zap (ev n σ (.tmp 9)) b:=(fun n σ b=>by rw[zag,show gd 4=some 9 from(by rw[hgd];rfl)];rfl);have hg10:∀n σ b,zaw gd n σ (some (10,b))=zap (ev n σ (.tmp 15)) b:=(fun n σ b=>by rw[zag,show gd 10=some 15 from(by rw[hgd];rfl)];rfl);have hg16:∀n σ b,zaw gd n σ (some (16,b))=zap (ev n σ (.tmp 21)) b:=(fun n σ b=>by rw[zag,show gd 16=some 21 from(by rw[hgd];rfl)];rfl)
   try simp (disch:=first|omega|assumption|rfl) only[go_sem,p1,Nat.zero_add,decide_eq_true hA1,zb1,↓hg4,↓hg10,↓hg16]
   refine hK _ _ ?_;clear hK hgd;clear K;try clear gd
   exact⟨rfl,rfl,vq0,rfl,_,vr0,fun h=>by cases h⟩
  by_cases hA2:(d.nums.length:Int)>12
  ·refine rq ?_;intro gd K hgd hK
   have hg4:∀n σ b,zaw gd n σ (some (4,b))=zap (ev n σ (.tmp 9)) b:=(fun n σ b=>by rw[zag,show gd 4=some 9 from(by rw[hgd];rfl)];rfl);have hg10:∀n σ b,zaw gd n σ (some (10,b))=zap (ev n σ (.tmp 15)) b:=(fun n σ b=>by rw[zag,show gd 10=some 15 from(by rw[hgd];rfl)];rfl);have hg16:∀n σ b,zaw gd n σ (some (16,b))=zap (ev n σ (.tmp 21)) b:=(fun n σ b=>by rw[zag,show gd 16=some 21 from(by rw[hgd];rfl)];rfl)
   try simp (disch:=first|omega|assumption|rfl) only[go_sem,p1,p2,Nat.zero_add,decide_eq_false hA1,decide_eq_true hA2,zb1,↓hg4,↓hg10,↓hg16]
   refine hK _ _ ?_;clear hK hgd;clear K;try clear gd
   exact⟨rfl,rfl,vq0,rfl,_,vr0,fun h=>by cases h⟩
  by_cases hA3:(d.texts.length:Int)>40
  ·refine rq ?_;intro gd K hgd hK
   have hg4:∀n σ b,zaw gd n σ (some (4,b))=zap (ev n σ (.tmp 9)) b:=(fun n σ b=>by rw[zag,show gd 4=some 9 from(by rw[hgd];rfl)];rfl);have hg10:∀n σ b,zaw gd n σ (some (10,b))=zap (ev n σ (.tmp 15)) b:=(fun n σ b=>by rw[zag,show gd 10=some 15 from(by rw[hgd];rfl)];rfl);have hg16:∀n σ b,zaw gd n σ (some (16,b))=zap (ev n σ (.tmp 21)) b:=(fun n σ b=>by rw[zag,show gd 16=some 21 from(by rw[hgd];rfl)];rfl)
   try simp (disch:=first|omega|assumption|rfl) only[go_sem,p1,p2,p3,Nat.zero_add,decide_eq_false hA1,decide_eq_false hA2,decide_eq_true hA3,zb1,↓hg4,↓hg10,↓hg16]
   refine hK _ _ ?_;clear hK hgd;clear K;try clear gd
   exact⟨rfl,rfl,vq0,rfl,_,vr0,fun h=>by cases h⟩
  by_cases hA4:(d.raw.length:Int)>1100
  ·refine rq ?_;intro gd K hgd hK
   have hg4:∀n σ b,zaw gd n σ (some (4,b))=zap (ev n σ (.tmp 9)) b:=(fun n σ b=>by rw[zag,show gd 4=some 9 from(by rw[hgd];rfl)];rfl);have hg10:∀n σ b,zaw gd n σ (some (10,b))=zap (ev n σ (.tmp 15)) b:=(fun n σ b=>by rw[zag,show gd 10=some 15 from(by rw[hgd];rfl)];rfl);have hg16:∀n σ b,zaw gd n σ (some (16,b))=zap (ev n σ (.tmp 21)) b:=(fun n σ b=>by rw[zag,show gd 16=some 21 from(by rw[hgd];rfl)];rfl)
   try simp (disch:=first|omega|assumption|rfl) only[go_sem,p1,p2,p3,p4,Nat.zero_add,decide_eq_false hA1,decide_eq_false hA2,decide_eq_false hA3,decide_eq_true hA4,zb1,↓hg4,↓hg10,↓hg16]
   refine hK _ _ ?_;clear hK hgd;clear K;try clear gd
   exact⟨rfl,rfl,vq0,rfl,_,vr0,fun h=>by cases h⟩
  ·refine rq ?_;intro gd K hgd hK
   have hg4:∀n σ b,zaw gd n σ (some (4,b))=zap (ev n σ (.tmp 9)) b:=(fun n σ b=>by rw[zag,show gd 4=some 9 from(by rw[hgd];rfl)];rfl);have hg10:∀n σ b,zaw gd n σ (some (10,b))=zap (ev n σ (.tmp 15)) b:=(fun n σ b=>by rw[zag,show gd 10=some 15 from(by rw[hgd];rfl)];rfl);have hg16:∀n σ b,zaw gd n σ (some (16,b))=zap (ev n σ (.tmp 21)) b:=(fun n σ b=>by rw[zag,show gd 16=some 21 from(by rw[hgd];rfl)];rfl)
   try simp (disch:=first|omega|assumption|rfl) only[go_sem,p1,p2,p3,p4,Nat.zero_add,decide_eq_false hA1,decide_eq_false hA2,decide_eq_false hA3,decide_eq_false hA4,zb1,↓hg4,↓hg10,↓hg16]
   refine hK _ _ ?_;clear hK hgd;clear K;try clear gd
   exact⟨rfl,rfl,vq0,rfl,_,vr0,fun _=>⟨by omega,by omega,by omega,by omega⟩⟩
 rintro _ σ1 _ v1 ⟨rfl,rfl,h1,hv1,bb,h26,hbb⟩
 rw[hv1]
 clear hv1 v1
 repeat refine c_r ?_
 refine zc6 (t:=bb) ((vq1 h26)) ?_ ?_
 ·intro _
  repeat (first|refine c_r ?_|refine rg0 ?_)
  refine rt0 Tryz.ntmps43 ?_
  exact⟨hE1,false,rfl,fun h=>by cases h⟩
 intro hb
 obtain⟨ln,lu,lt,lr⟩:=hbb hb
 repeat refine c_r ?_
 refine rg0 ?_
 repeat refine c_r ?_
 refine zat (Q:=fun e σ' ds' v'=>ds'=[]∧Ext w1 v'∧((e= .exit 0∧σ' 1= .pointer (some ⟨w.heap.size,0,Option.none⟩)∧∀n∈d.names,few n=true)∨(e= .ret∧σ' 2= .bool false))) ?_ ?_
 ·refine za5 (fun m σ ds A=>ds=[]∧∃(i:Nat),i+m=vals.length∧σ 3=vi i∧σ 1= .pointer (some ⟨w.heap.size,0,Option.none⟩)∧Ext w1 A∧∀j (h:j<d.names.length),j<i→few d.names[j]=true) vals.length ?_ ?_
  ·exact⟨rfl,0,by omega,vr0,(vq1 h1),Keep.refl _ _,fun j h hj=>absurd hj (by omega)⟩
  clear h1
  rintro m σ ds A ⟨rfl,i,him,h3,h1,hEA,hlow⟩
  have q1:=zab hEA p1
  repeat refine c_r ?_
  refine rg4 h3 h1 q1 Nat.zero_add ?_
  repeat refine c_r ?_
  refine wc0 ?_ ?_
  ·intro hlt
   simp only[decide_eq_true_eq]at hlt
   have hi:i<vals.length:=by omega
   have hi0:(0:Int)≤(i:Int):=by omega
   have hi1:(i:Int)<(vals.length:Int):=by omega
   have hi1':(i:Int)+1=((i+1:Nat):Int):=by push_cast;rfl
   have hgi:=hgn i hi
   obtain⟨xN,rfl⟩:=Option.isSome_iff_exists.1 (zam hgi)
   have hgi':=zab (hE0.trans (hE1.trans hEA)) hgi
   have hrow:=hvr i hi (by omega)
   obtain⟨n,hn⟩:∃n,d.names[i]'(by omega)=n:=⟨_,rfl⟩
   rw[hn]at hrow
   obtain⟨hv,hhv⟩:∃hv,vals[i]=hv:=⟨_,rfl⟩
   rw[hhv]at hgi' hrow
   repeat refine c_r ?_
   refine rq ?_;intro gd K hgd hK
   try simp (disch:=first|omega|assumption|rfl) only[go_sem,h3,h1,q1,Nat.zero_add,hi0,hi1,hgi']
   refine Fn.mono (zg0 A hv n (hrow.ext (hE0.trans (hE1.trans hEA)))) ?_
   rintro _ A2 ⟨rfl,hA2⟩
   try simp only[go_sem]
   refine hK _ _ ?_;clear hK hgd;clear K;try clear gd
   repeat refine c_r ?_
   refine zc6 (t:=!few n) (vr0) ?_ ?_
   ·intro _
    repeat refine c_r ?_
    refine rg0 ?_
    repeat refine c_r ?_
    exact⟨rfl,hEA.trans hA2,.inr ⟨rfl,vq0⟩⟩
   ·intro hfn
    repeat refine c_r ?_
    refine rg2 h3 hi1' ?_
    repeat refine c_r ?_
    refine⟨m - 1,by omega,rfl,i+1,by omega,vq0,(vq1 h1),hEA.trans hA2,fun j hj hji=>?_⟩
    by_cases hj2:j=i
    ·subst hj2;rw[hn];simpa using hfn
    ·exact hlow j hj (by omega)
  ·intro hge
   simp only[decide_eq_false_iff_not]at hge
   repeat refine c_r ?_
   refine⟨rfl,hEA,.inl ⟨rfl,(vq1 h1),fun n hn=>?_⟩⟩
   obtain⟨j,hj,rfl⟩:=List.getElem_of_mem hn
   exact hlow j hj (by omega)
 clear h1
 rintro e σ4 _ A ⟨rfl,hEA,⟨rfl,h1,hall⟩| ⟨rfl,h2⟩⟩
 rotate_left
 ·repeat refine c_r ?_
  refine rt1 h2 Tryz.ntmps43 ?_
  exact⟨hE1.trans hEA,false,rfl,fun h=>by cases h⟩
 have q3:=zab hEA p3
 repeat refine c_r ?_
 refine rg0 ?_
 repeat refine c_r ?_
 refine zat (Q:=fun e σ' ds' v'=>ds'=[]∧v'=A∧((e= .exit 2∧σ' 1= .pointer (some ⟨w.heap.size,0,Option.none⟩)∧∀l∈d.texts,l.length≤300)∨(e= .ret∧σ' 2= .bool false))) ?_ ?_
 ·refine za5 (fun m σ ds B=>ds=[]∧∃(i:Nat),i+m=d.texts.length∧σ 4=vi i∧σ 1= .pointer (some ⟨w.heap.size,0,Option.none⟩)∧B=A∧∀j (h:j<d.texts.length),j<i→d.texts[j].length≤300) d.texts.length ?_ ?_
  ·exact⟨rfl,0,by omega,vr0,(vq1 h1),rfl,fun j h hj=>absurd hj (by omega)⟩
  clear h1
  rintro m σ ds B ⟨rfl,i,him,h4,h1,hB2,hlow⟩
  rw[hB2]
  clear hB2 B
  repeat refine c_r ?_
  refine rg4 h4 h1 q3 Nat.zero_add ?_
  repeat refine c_r ?_
  refine wc0 ?_ ?_
  ·intro hlt
   simp only[decide_eq_true_eq]at hlt
   have hi:i<d.texts.length:=by omega
   have hi0:(0:Int)≤(i:Int):=by omega
   have hi1:(i:Int)<(d.texts.length:Int):=by omega
   have hi1':(i:Int)+1=((i+1:Nat):Int):=by push_cast;rfl
   have hgi:=hgt i hi
   obtain⟨xT,rfl⟩:=Option.isSome_iff_exists.1 (zam hgi)
   have hgi':=zab (hE0.trans (hE1.trans hEA)) hgi
   rw[List.getElem_map]at hgi'
   repeat refine c_r ?_
   refine rg7 h4 h1 q3 Nat.zero_add hi0 hi1 hgi' ?_
   repeat refine c_r ?_
   refine wc0 ?_ ?_
   ·intro hgt2
    repeat refine c_r ?_
    refine rg0 ?_
    repeat refine c_r ?_
    exact⟨rfl,rfl,.inr ⟨rfl,vq0⟩⟩
   ·intro hgt2
    simp only[decide_eq_false_iff_not]at hgt2
    repeat refine c_r ?_
    refine rg2 h4 hi1' ?_
    repeat refine c_r ?_
    refine⟨m - 1,by omega,rfl,i+1,by omega,vq0,(vq1 h1),rfl,fun j hj hji=>?_⟩
    by_cases hj2:j=i
    ·subst hj2;omega
    ·exact hlow j hj (by omega)
  ·intro hge
   simp only[decide_eq_false_iff_not]at hge
   repeat refine c_r ?_
   refine⟨rfl,rfl,.inl ⟨rfl,(vq1 h1),fun l hl=>?_⟩⟩
   obtain⟨j,hj,rfl⟩:=List.getElem_of_mem hl
   exact hlow j hj (by omega)
 clear h1
 rintro e σ6 _ v1 ⟨rfl,hv1,⟨rfl,h1,htl⟩| ⟨rfl,h2⟩⟩
 rotate_left
 ·rw[hv1]
  repeat refine c_r ?_
  refine rt1 h2 Tryz.ntmps43 ?_
  exact⟨hE1.trans hEA,false,rfl,fun h=>by cases h⟩
 rw[hv1]
 clear hv1 v1
 repeat (first|refine c_r ?_|refine rg0 ?_)
 refine rt0 Tryz.ntmps43 ?_
 exact⟨hE1.trans hEA,true,rfl,fun _=>⟨fun n hn=>few_f (hall n hn),by omega,by omega,by omega,fun l hl=>by have:=htl l hl;omega,by omega,by omega,⟨by omega,by omega,htl,by omega,hall⟩⟩⟩
theorem RsFew_ok{w0 w:World}(hE0:Ext w0 w){lv:Value}{R:List RecL}(hl:Rows 7 (RecAt w0) w lv R):
  Fn Tryz.prog 21 #[lv] w (fun v w'=>Ext w w'∧∃b:Bool,v= .bool b∧(b=true→R.length≤60∧∀r∈R,few r.owner=true∧DatF r.dat)):=by
 obtain⟨aR,cR,rfl,hcR,hgR⟩:=hl.open
 refine enter Tryz.func21 Tryz.ntmps21 rfl rfl ?_
 repeat refine c_r ?_
 refine rg0 ?_
 repeat refine c_r ?_
 refine rg0 ?_
 repeat refine c_r ?_
 refine wc0 ?_ ?_
 ·intro _
  repeat (first|refine c_r ?_|refine rg0 ?_)
  refine rt0 Tryz.ntmps21 ?_
  exact⟨Keep.refl _ _,false,rfl,fun h=>by cases h⟩
 intro h60
 simp only[decide_eq_false_iff_not]at h60
 repeat refine c_r ?_
 refine rg0 ?_
 repeat refine c_r ?_
 refine za5 (fun m σ ds A=>ds=[]∧∃(i:Nat),i+m=R.length∧σ 3=vi i∧σ 0= .slice aR R.length cR∧Ext w A∧∀j (h:j<R.length),j<i→few R[j].owner=true∧DatF R[j].dat) R.length ?_ ?_
 ·exact⟨rfl,0,by omega,vr0,vq0,Keep.refl _ _,fun j h hj=>absurd hj (by omega)⟩
 rintro m σ ds A ⟨rfl,i,him,h3,h0,hEA,hlow⟩
 repeat refine c_r ?_
 refine rg2 h3 h0 ?_
 repeat refine c_r ?_
 refine wc0 ?_ ?_
 ·intro hlt
  simp only[decide_eq_true_eq]at hlt
  have hi:i<R.length:=by omega
  have hi0:(0:Int)≤(i:Int):=by omega
  have hi1:(i:Int)<(R.length:Int):=by omega
  have hi1':(i:Int)+1=((i+1:Nat):Int):=by push_cast;rfl
  obtain⟨cr,hcr,hRr⟩:=hgR i hi
  obtain⟨r,hr⟩:∃r,R[i]=r:=⟨_,rfl⟩
  rw[hr]at hRr
  obtain⟨ow,dsc,hcrE,o1,o2,g0,g1,g2,gd⟩:=hRr.cells
  obtain⟨xR,rfl⟩:=Option.isSome_iff_exists.1 (zaA hcr)
  obtain⟨xi,hxi⟩:∃xi,adr (some xR) (i*7)=some xi:=⟨_,rfl⟩
  rw[hxi]at hcr
  obtain⟨xd,hxd⟩:∃xd,adr (some xi) 2=some xd:=⟨_,rfl⟩
  have rc:∀{x},Ext w x→zad x (some xi)=some ow∧zar x (some xd) 5=some dsc:=fun {x} hx=>by
   have hcx:=zah hx hcr
   have e0:=zbt hcx g0
   have e5:=zbb (m:=2) (k:=5) hcx
   rw[zal]at e0
   rw[hxd,gd]at e5
   exact⟨e0,e5⟩
  obtain⟨c0,_⟩:=rc hEA
  have hwA:=hE0.trans hEA
  repeat refine c_r ?_
  refine zat (Q:=fun e σ' ds' v'=>e= .normal∧ds'=[]∧σ' 3=vi i∧σ' 0= .slice (some xR) R.length cR∧Ext A v'∧∃bb,σ' 28= .bool bb∧(bb=false→few r.owner=true∧DatF r.dat)) ?_ ?_
  ·cases hf:few r.owner with
   |false=>
    refine rq ?_;intro gd K hgd hK
    have hg7:∀n σ b,zaw gd n σ (some (7,b))=zap (ev n σ (.tmp 20)) b:=(fun n σ b=>by rw[zag,show gd 7=some 20 from(by rw[hgd];rfl)];rfl)
    try simp (disch:=first|omega|assumption|rfl) only[go_sem,h0,h3,hi0,hi1,hxi,c0,zal]
    refine Fn.mono (zg0 A ow r.owner (o1.ext hwA)) ?_
    rintro _ A2 ⟨rfl,hA2⟩
    rw[hf]
    try simp (disch:=first|omega|assumption|rfl) only[go_sem,Bool.not_false,↓hg7]
    refine hK _ _ ?_;clear hK hgd;clear K;try clear gd
    exact⟨rfl,rfl,(vq1 h3),(vq1 h0),hA2,_,vr0,fun h=>by cases h⟩
   |true=>
    refine rq ?_;intro gd K hgd hK
    have hg7:∀n σ b,zaw gd n σ (some (7,b))=zap (ev n σ (.tmp 20)) b:=(fun n σ b=>by rw[zag,show gd 7=some 20 from(by rw[hgd];rfl)];rfl)
    try simp (disch:=first|omega|assumption|rfl) only[go_sem,h0,h3,hi0,hi1,hxi,c0,zal]
    refine Fn.mono (zg0 A ow r.owner (o1.ext hwA)) ?_
    rintro _ A2 ⟨rfl,hA2⟩
    rw[hf]
    obtain⟨_,c5⟩:=rc (hEA.trans hA2)
    try simp (disch:=first|omega|assumption|rfl) only[go_sem,h0,h3,hi0,hi1,hxi,hxd,c5,Bool.not_true,↓hg7]
    refine Fn.mono (DFew_ok (hwA.trans hA2) o2) ?_
    rintro _ A3 ⟨hA3,b,rfl,hb⟩
    try simp (disch:=first|omega|assumption|rfl) only[go_sem,↓hg7]
    refine hK _ _ ?_;clear hK hgd;clear K;try clear gd
    exact⟨rfl,rfl,(vq1 h3),(vq1 h0),hA2.trans hA3,_,vr0,fun h=>⟨rfl,hb (by simpa using h)⟩⟩
  clear h3 h0
  rintro _ σ1 _ A1 ⟨rfl,rfl,h3,h0,hA1,bb,h28,hbb⟩
  repeat refine c_r ?_
  refine zc6 (t:=bb) ((vq1 h28)) ?_ ?_
  ·intro _
   repeat (first|refine c_r ?_|refine rg0 ?_)
   refine rt0 Tryz.ntmps21 ?_
   exact⟨hEA.trans hA1,false,rfl,fun h=>by cases h⟩
  ·intro ht
   repeat refine c_r ?_
   refine rg2 h3 hi1' ?_
   repeat refine c_r ?_
   refine⟨m - 1,by omega,rfl,i+1,by omega,vq0,(vq1 h0),hEA.trans hA1,fun j hj hji=>?_⟩
   by_cases hj2:j=i
   ·subst hj2;rw[hr];exact hbb ht
   ·exact hlow j hj (by omega)
 ·intro hge
  simp only[decide_eq_false_iff_not]at hge
  repeat (first|refine c_r ?_|refine rg0 ?_)
  refine rt0 Tryz.ntmps21 ?_
  refine⟨hEA,true,rfl,fun _=>⟨by omega,fun r hr=>?_⟩⟩
  obtain⟨j,hj,rfl⟩:=List.getElem_of_mem hr
  exact hlow j hj (by omega)
def Hz(S:Nat→Prop)(A:World)(P:World→Prop):Prop:=∀X,Keep S A X→P X
theorem Hz.now{S:Nat→Prop}{A:World}{P:World→Prop}(h:Hz S A P):P A:=h A (Keep.refl _ _)
theorem Hz.ext{S:Nat→Prop}{A B:World}{P:World→Prop}(h:Hz S A P)(hE:Ext A B):Hz S B P:=fun X hX=>h X ((hE.mono fun _ _ h=>h.elim).trans hX)
theorem Hz.app{S T S':Nat→Prop}{A B:World}{P:World→Prop}(h:Hz S A P)(hk:Keep T A B)(hT:∀b,b<A.heap.size→T b→S b)(hS:∀b,b<A.heap.size→S' b→S b):Hz S' B P:=fun X hX=>by
 have h1:Keep (fun b=>T b∨S' b) A B:=hk.mono fun _ _ h=> .inl h
 have h2:Keep (fun b=>T b∨S' b) B X:=hX.mono fun _ _ h=> .inr h
 exact h X ((h1.trans h2).mono fun b hb h=>h.elim (hT b hb) (hS b hb))
theorem row_hz{S:Nat→Prop}{A:World}{v:Value}{l:List Value}(hr:Row A v l)(hb:∀a n c,v= .slice (some a) n c→a.block<A.heap.size∧¬S a.block):Hz S A (fun X=>Row X v l):=fun X hX=>
 hr.blocks fun a n c hv=>hX.block _ (hb a n c hv).1 (hb a n c hv).2
theorem zhh{n:Nm}(h:ziA n=true):NmT n:=by
 unfold ziA at h
 simp only[Bool.and_eq_true,decide_eq_true_eq]at h
 have h1:=h.2
 exact⟨fun l hl=>by have:=(zco h1 l hl).2;omega,by have:=zfd h1;omega⟩
theorem few_T{n:Nm}(h:few n=true):NmT n:=by
 simp only[few,Bool.and_eq_true,List.all_eq_true,decide_eq_true_eq]at h
 exact⟨fun l hl=>by have:=h.2 l hl;omega,by omega⟩
theorem fold_T{n:Nm}(h:NmT n):NmT (zkf n):=by
 refine⟨fun l hl=>?_,by unfold zkf;rw[List.length_map];exact h.2⟩
 unfold zkf at hl
 obtain⟨x,hx,rfl⟩:=List.mem_map.1 hl
 have:=h.1 x hx
 simpa [zaQ] using this
section
variable {P : Program} {d : Option Tmp} {ty : TypeId} {ps : String} {af : Array Edge} {g : Option (Nat × Bool)} {ρ : Operand → Value} {w : World} {K : Value → World → Prop}
theorem zfD{s:TypeId}{x:Operand}{f:Nat}{fs:Array Field}{fd:Field}{cs:Array Value}{v:Value}(hs:P.underlying s=some (.struct fs))(hf:fs[f]? =some fd)(ha:tyA P fd.type=false)(hu:(P.underlying fd.type).isSome=true)
  (hx:ρ x= .agg cs) (hv:cs[fd.offset]? =some v) (h:K v w):opV P ⟨d,.field s x f,ty,ps,af,g⟩ ρ w K:=by
 show opW P _ ρ w K
 refine zaz (s:=Instr.field s (ρ x) f) (w':=w) (v:=v) ?_ h
 obtain⟨u,hu⟩:=Option.isSome_iff_exists.1 hu
 have hi:(isAgg fd.type).run P w= .ok false w:=by
  unfold tyA at ha
  rw[hu]at ha
  cases u<;>first| (cases ha;done)|simp[isAgg,underlying,program,Sem.run,hu]
 have hp:(part fd.type cs fd.offset).run P w= .ok v w:=by
  unfold part
  simp only[Sem.run_bind,hi,Result.andThen_ok,Bool.false_eq_true,if_false,hv,Sem.run_pure]
 unfold Instr.field
 simp[underlying,program,Sem.run,hs,hf,hx,asAgg]
 exact hp
end
theorem own15_ok{W0 w:World}{b:Nat}{t1 t2:Lab}{q1 q2:Bool}{ov:Value}{o:Nm}{e e1 e2:Int}(hW:WX W0)(h:Rdr W0 w b [(t1,q1),(t2,q2)] ov e)(hl1:t1.length≤1000000)(hl2:t2.length≤1000000)(ho:Row W0 ov (o.map vs))(hoT:NmT o)
  (he1:zbe (if q1=true then zbe e 2 else e) (decP 65535 t1).2=e1) (he2:zbe (if q2=true then zbe e1 2 else e1) (zaI t2 o).2=e2):
  Fn Tryz.prog 160 #[.pointer (some ⟨b,0,Option.none⟩),vi 15] w (fun v w'=>(∃nmv nuv nv,v= .agg #[vi 15,nmv,nuv,.slice Option.none 0 0,.slice Option.none 0 0]∧Own w.heap.size w' 29 nuv [v32 (decP 65535 t1).1]∧Own w.heap.size w' 24 nmv [nv]∧Row w' nv ((zaI t2 o).1.map vs)∧BlkB w.heap.size w' nv)∧Rdr W0 w' b [] ov e2∧Keep (fun i=>i=b) w w'):=by
 have hbl:=h.lt
 have hlow:=h.low
 refine enter Tryz.func160 Tryz.ntmps160 rfl rfl ?_
 refine go trivial ?_
 refine zan ?_
 intro w1 hE1 hs1 hA
 refine rq ?_;intro gd K hgd hK
 try simp only[go_sem]
 refine⟨by kernel_rfl,?_⟩
 rw[show bdV Tryz.prog 34 [(0,vi 15)]=some (.agg #[vi 15,.slice Option.none 0 0,.slice Option.none 0 0,.slice Option.none 0 0,.slice Option.none 0 0]) from by kernel_rfl]
 try simp only[go_sem]
 refine zbo (P:=Tryz.prog) (l:=[vi 15,.slice Option.none 0 0,.slice Option.none 0 0,.slice Option.none 0 0,.slice Option.none 0 0]) rfl (zc2 _ _ _ _ _ rfl rfl rfl rfl) rfl rfl ?_
 intro w2 hE2 hs2 hB2
 try simp only[go_sem]
 refine hK _ _ ?_;clear hK hgd;clear K;try clear gd
 rw[hs1]at hB2
 simp only[hs1]
 have hR2:=(h.extx hE1).extx hE2
 refine go trivial ?_
 refine rc trivial (zev hR2 15) ?_
 rintro _ w3 ⟨rfl,hE3⟩
 rw[show zfJ 15 ([(t1,q1),(t2,q2)]:List (Lab×Bool)).length=true from rfl]
 have d1:decide ((15:Int)=1)=false:=rfl
 have d2:decide ((15:Int)=28)=false:=rfl
 have d3:decide ((15:Int)=16)=false:=rfl
 have d4:decide ((15:Int)=15)=true:=rfl
 refine rgo (an4 d1 d2 d3 d4) ?_
 have hR3:=hR2.extx hE3
 have hs3:=hE3.size
 have hB3:=Ext.at hE3 hB2
 obtain⟨P,hP⟩:∃P,w.heap.size+1=P:=⟨_,rfl⟩
 rw[hP]at hB3 ⊢
 have hP3:P<w3.heap.size:=(Array.getElem?_eq_some_iff.1 hB3).1
 have q3:zad w3 (some ⟨P,2,Option.none⟩)=some (.slice Option.none 0 0):=za1 (j:=2) hB3 rfl
 have hdl:=zcF 65535 t1
 refine zat (Q:=fun e' σ' ds' v'=>e'= .normal∧ds'=[]∧(σ' 0= .pointer (some ⟨b,0,Option.none⟩)∧σ' 4= .pointer (some ⟨w.heap.size,0,Option.none⟩)∧σ' 5= .pointer (some ⟨P,0,Option.none⟩))∧Rdr W0 v' b [(t2,q2)] ov e1∧Keep (fun i=>i=b∨i=P) w3 v'∧∃nuv,v'.heap[P]? =some (.cells [vi 15,.slice Option.none 0 0,nuv,.slice Option.none 0 0,.slice Option.none 0 0].toArray 34 (0,0))∧Own w3.heap.size v' 29 nuv [v32 (decP 65535 t1).1]) ?_ ?_
 ·refine zaT (fun i=>i==7) [(0,true),(1,true),(2,true),(3,false),(4,false),(5,false),(6,true),(7,false)] ((fun i=>i=b)) mixed (by kernel_rfl) ?_;intro gd K x hgd hx hxe hK;have hx0:=zaR hxe;clear hxe
  have q3x:=zab hx0 q3
  have hsx:=hx0.size
  simp (disch:=first|omega|assumption|rfl) only[go_sem,q3x,Nat.zero_add]
  refine⟨fun a ha hb'=>by cases ha;dsimp only at hb';omega,?_⟩
  refine Fn.mono (num_ok hW (hR3.extx hx0) (by simp) (by omega) 65535 (by decide)) ?_
  rw[he1]
  rintro _ y1 ⟨rfl,hR1,hk1⟩
  refine⟨.inr hk1,?_⟩
  simp (disch:=first|omega|assumption|rfl) only[go_sem]
  refine zbc (z:=v32 0) rfl rfl rfl rfl rfl ?_
  intro y2 hy2 hys2 hyo
  refine⟨.inr hy2.keep,?_⟩
  simp (disch:=first|omega|assumption|rfl) only[go_sem]
  have hsy1:=hk1.size
  have hsy2:=hy2.size
  refine za0 (B:=w3.heap.size) (e:=29) (Own.nil _ _ _) hyo.row rfl rfl rfl rfl rfl rfl (vr0) (vr0) (fun q hq=>by rw[List.mem_singleton.1 hq];rfl) (by simp) (by decide) (by omega) ?_
  intro sv' y3 hown3 hX3 hK3 hb3'
  refine⟨.inr (hK3.mono fun i _ h=>by cases h),?_⟩
  simp (disch:=first|omega|assumption|rfl) only[go_sem,Nat.zero_add]
  have hsK:=hK3.size
  have hBP3:y3.heap[P]? =_:=(hK3.block P (by omega) (fun h=>by cases h)).trans ((hy2.block P (by omega) (fun h=>h)).trans ((hk1.block P (by omega) (by omega)).trans (Ext.at hx0 hB3)))
  refine zcw (P:=Tryz.prog) (t:=31) (j:=2) (u:=sv') hBP3 (by simp) (by obtain⟨a,c,rfl⟩:=hown3.slice;rfl) rfl rfl ?_
  intro z hzs hBz hkz
  refine⟨.inl rfl,?_⟩
  simp (disch:=first|omega|assumption|rfl) only[go_sem]
  refine hK _ _ ?_;clear hK hgd;clear K;try clear gd
  simp only[List.set_cons_zero,List.set_cons_succ]at hBz
  have ha:Keep (fun i=>i=b∨i=P) w3 y2:=((hx0.mono fun _ _ h=>h.elim).trans (hk1.mono fun _ _ h=> .inl h)).trans (hy2.mono fun _ _ h=>h.elim)
  exact⟨rfl,rfl,⟨vr0,vr0,vr0⟩,((hR1.extx hy2).keep hK3 fun i hi=>by cases hi).keep hkz fun i hi=>by omega,(ha.own hK3 fun i hi h=>by cases h).trans (hkz.mono fun _ _ h=> .inr h),sv',hBz,hown3.keep hkz fun i hi hs=>by have:=(hown3.ge hi).1;omega⟩
 rintro _ σ1 _ w4 ⟨rfl,rfl,⟨s0,s4,s5⟩,hR4,hk4,nuv,hB4,hnu⟩
 have hs4:=hk4.size
 obtain⟨na,nc,hnuv⟩:=hnu.slice
 have q4:zad w4 (some ⟨P,1,Option.none⟩)=some (.slice Option.none 0 0):=za1 (j:=1) hB4 rfl
 refine go (an3 s0 s4 s5) ?_
 refine zat (Q:=fun e' σ' ds' v'=>e'= .normal∧ds'=[]∧(σ' 4= .pointer (some ⟨w.heap.size,0,Option.none⟩)∧σ' 5= .pointer (some ⟨P,0,Option.none⟩))∧Rdr W0 v' b [] ov e2∧Keep (fun i=>i=b∨i=P) w4 v'∧∃nmv nv,v'.heap[P]? =some (.cells [vi 15,nmv,nuv,.slice Option.none 0 0,.slice Option.none 0 0].toArray 34 (0,0))∧Own w4.heap.size v' 24 nmv [nv]∧Row v' nv ((zaI t2 o).1.map vs)∧BlkB w4.heap.size v' nv∧one nv=true) ?_ ?_
 ·refine zaT (fun i=>i==7) [(0,true),(1,true),(2,true),(3,false),(4,false),(5,false),(6,true),(7,false)] ((fun i=>i=b)) mixed (by kernel_rfl) ?_;intro gd K x hgd hx hxe hK;have hx0:=zaR hxe;clear hxe
  have q4x:=zab hx0 q4
  have hsx:=hx0.size
  simp (disch:=first|omega|assumption|rfl) only[go_sem,s0,s5,q4x,Nat.zero_add]
  refine⟨fun a ha hb'=>by cases ha;dsimp only at hb';omega,?_⟩
  refine Fn.mono (zjT (hR4.extx hx0) (by simp) (by omega) ho hoT) ?_
  rw[he2]
  rintro nv y1 ⟨hrow,hbk,hR1,hk1⟩
  refine⟨.inr hk1,?_⟩
  obtain⟨nva,nvc,hnve,_⟩:=id hrow
  simp (disch:=first|omega|assumption|rfl) only[go_sem]
  refine zbc (z:= .slice Option.none 0 0) (v:=nv) rfl rfl rfl rfl (by rw[hnve];rfl) ?_
  intro y2 hy2 hys2 hyo
  refine⟨.inr hy2.keep,?_⟩
  simp (disch:=first|omega|assumption|rfl) only[go_sem]
  have hsy1:=hk1.size
  have hsy2:=hy2.size
  refine za0 (B:=w4.heap.size) (e:=24) (Own.nil _ _ _) hyo.row rfl rfl rfl rfl rfl rfl (vr0) (vr0) (fun q hq=>by rw[List.mem_singleton.1 hq,hnve];rfl) (by simp) (by decide) (by omega) ?_
  intro sv' y3 hown3 hX3 hK3 hb3'
  refine⟨.inr (hK3.mono fun i _ h=>by cases h),?_⟩
  simp (disch:=first|omega|assumption|rfl) only[go_sem,s5,Nat.zero_add]
  have hsK:=hK3.size
  have hBP3:y3.heap[P]? =_:=(hK3.block P (by omega) (fun h=>by cases h)).trans ((hy2.block P (by omega) (fun h=>h)).trans ((hk1.block P (by omega) (by omega)).trans (Ext.at hx0 hB4)))
  refine zcw (P:=Tryz.prog) (t:=30) (j:=1) (u:=sv') hBP3 (by simp) (by obtain⟨a,c,rfl⟩:=hown3.slice;rfl) rfl rfl ?_
  intro z hzs hBz hkz
  refine⟨.inl rfl,?_⟩
  simp (disch:=first|omega|assumption|rfl) only[go_sem]
  refine hK _ _ ?_;clear hK hgd;clear K;try clear gd
  simp only[List.set_cons_zero,List.set_cons_succ]at hBz
  have ha:Keep (fun i=>i=b∨i=P) w4 y2:=((hx0.mono fun _ _ h=>h.elim).trans (hk1.mono fun _ _ h=> .inl h)).trans (hy2.mono fun _ _ h=>h.elim)
  have hrz:Row z nv ((zaI t2 o).1.map vs):=by
   refine Row.blocks (w:=y3) (Row.blocks (w:=y2) (hrow.ext hy2) fun a n' c hv=>?_) fun a n' c hv=>?_
   ·have h2:=hbk a n' c hv
    exact hK3.block _ (by omega) (fun hh=>by cases hh)
   ·have h2:=hbk a n' c hv
    exact hkz.block _ (by omega) (by omega)
  refine⟨rfl,rfl,⟨(vq1 s4),(vq1 s5)⟩,((hR1.extx hy2).keep hK3 fun i hi=>by cases hi).keep hkz fun i hi=>by omega,(ha.own hK3 fun i hi h=>by cases h).trans (hkz.mono fun _ _ h=> .inr h),sv',nv,hBz,hown3.keep hkz fun i hi hs=>by have:=(hown3.ge hi).1;omega,hrz,fun a n' c hv=>?_,by rw[hnve];rfl⟩
  have h2:=hbk a n' c hv
  omega
 clear s0 s4 s5
 rintro _ σ2 _ w5 ⟨rfl,rfl,⟨s4,s5⟩,hR5,hk5,nmv,nv,hB5,hnm,hnr,hnb,hn1⟩
 obtain⟨ma,mc,hnmv⟩:=hnm.slice
 have hs5:=hk5.size
 have q5:=zaj (n:=5) hB5 rfl
 refine go (an2 s4 s5) ?_
 refine rq ?_;intro gd K hgd hK
 try simp (disch:=first|omega|assumption|rfl) only[go_sem,s4,s5,q5]
 have hA5:w5.heap[w.heap.size]? =_:=(hk5.block _ (by omega) (by omega)).trans ((hk4.block _ (by omega) (by omega)).trans (Ext.at (hE2.trans hE3) hA))
 refine zaK (P:=Tryz.prog) (t:=34) (l:=[vi 15,nmv,nuv,.slice Option.none 0 0,.slice Option.none 0 0]) hA5 rfl (zc2 _ _ _ _ _ (by rw[hnmv];rfl) (by rw[hnuv];rfl) rfl rfl) rfl rfl ?_
 intro w6 hs6 hB6 hk6
 try simp only[go_sem]
 refine hK _ _ ?_;clear hK hgd;clear K;try clear gd
 refine go trivial ?_
 refine zaf (.inr rfl) Tryz.ntmps160 rfl (zaO (x:=⟨w.heap.size,0,Option.none⟩) (k:=5) ((vr1 s4)) rfl rfl (zaj hB6 rfl) zae) ?_
 have hE13:=(hE1.trans hE2).trans hE3
 refine⟨⟨nmv,nuv,nv,rfl,((hnu.keep hk5 fun i hi hs=>by have:=hnu.ge hi;omega).keep hk6 fun i hi hs=>by have:=hnu.ge hi;omega).mono (by omega),(hnm.keep hk6 fun i hi hs=>by have:=(hnm.ge hi).1;omega).mono (by omega),hnr.blocks fun a n' c hv=>hk6.block _ (hnb a n' c hv).2 (by have:=(hnb a n' c hv).1;omega),(hnb.ext hk6.size).mono (by omega)⟩,hR5.keep hk6 fun i hi=>by omega,?_⟩
 exact((((hE13.mono fun _ _ h=>h.elim):Keep (fun i=>i=b) w w3).own hk4 fun i hi h=>by omega).own hk5 fun i hi h=>by omega).own hk6 fun i hi h=>by omega
end Go.Proofs.YtihbdhjibplldaaGreatDoor
