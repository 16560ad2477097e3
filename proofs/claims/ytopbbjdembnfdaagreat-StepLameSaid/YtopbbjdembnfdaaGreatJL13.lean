/-
  Texts of a proof, joined: X5, X2, X6, KC, KN.
  Conditions: none.
-/
import Derived.Test.YtopbbjdembnfdaaGreatJL12
import Derived.ProofKit
import Derived.OpenShut
import Derived.SizedLaws
import Derived.Deep.Slices
import Derived.Test.YtopbbjdembnfdaaGreatJL02
import Derived.Test.YtopbbjdembnfdaaGreatJL03
set_option linter.unusedVariables false
set_option linter.unusedSimpArgs false
set_option linter.defProp false
set_option linter.unnecessarySimpa false
namespace Go.Proofs.YtopbbjdembnfdaaGreat
open Go
/-! lame -/
section
variable {R : List RecL} {o q : Nm} {t : Int}
theorem at_kinds {n : Nm} {b : Bool} : (atL R n t b).kind = 1 ∨ (atL R n t b).kind = 2 ∨ (atL R n t b).kind = 5 := at_kind.1
theorem look_kinds (hu : under q o = true) : (lookL o R q t).kind = 1 ∨ (lookL o R q t).kind = 2 ∨ (lookL o R q t).kind = 3 ∨ (lookL o R q t).kind = 4 ∨ (lookL o R q t).kind = 5 ∨ (lookL o R q t).kind = 6 := by
 unfold lookL
 rw [if_neg (by rw [hu]; decide)]
 split
 ·rename_i r hr
  have := (go_kind hr).1
  omega
 ·split
  ·have := at_kinds (R := R) (n := q) (t := t) (b := false); omega
  ·split
   ·rename_i s _
    have := at_kinds (R := R) (n := s) (t := t) (b := true); omega
   ·exact .inr (.inr (.inl rfl))
end
theorem best_under (q : Nm) : ∀ {l : List (Nat × ZoneL)} {b : Int × Int} {P : Int → Prop}, (∀ x ∈ l, under q x.2.o = true → P x.1) → (0 ≤ b.2 → P b.1) → 0 ≤ (l.foldl (bestStep q) b).2 → P (l.foldl (bestStep q) b).1
 | [], b, P, _, h, h2 => h h2
 | x :: l, b, P, hx, h, h2 => by
  rw [List.foldl_cons] at h2 ⊢
  refine best_under q (fun y hy => hx y (List.mem_cons_of_mem _ hy)) (fun h3 => ?_) h2
  unfold bestStep at h3 ⊢
  split at h3
  ·rename_i hc
   rw [if_pos hc]
   exact hx x (List.mem_cons_self ..) hc.1
  ·rename_i hc
   rw [if_neg hc]; exact h h3
theorem bestN_under {N : NetL} {s : Int} {q : Nm} (h : (bestN N s q).2 = true) : ∃ z, (N.zones s)[(bestN N s q).1.toNat]? = some z ∧ under q z.o = true := by
 unfold bestN bestZ at *
 simp only [decide_eq_true_eq] at h
 refine best_under q (P := fun k => ∃ z, (N.zones s)[k.toNat]? = some z ∧ under q z.o = true) (fun x hx hu => ?_) (fun h => absurd h (by decide)) h
 obtain ⟨i, hi, rfl⟩ := List.mem_iff_getElem.1 hx
 have hi' := hi
 rw [numZ_length] at hi'
 rw [numZ_get hi'] at hu ⊢
 refine ⟨_, ?_, hu⟩
 simp only [Nat.zero_add, Int.toNat_natCast]
 exact List.getElem?_eq_getElem hi'
theorem ask_kinds {N : NetL} {s : Int} {q : Nm} {t : Int} (h : (bestN N s q).2 = true) : (askN N s q t).kind = 1 ∨ (askN N s q t).kind = 2 ∨ (askN N s q t).kind = 3 ∨ (askN N s q t).kind = 4 ∨ (askN N s q t).kind = 5 ∨ (askN N s q t).kind = 6 := by
 obtain ⟨z, hz, hu⟩ := bestN_under h
 unfold askN
 rw [if_pos h, hz]
 exact look_kinds hu
theorem ask_none {N : NetL} {s : Int} {q : Nm} {t : Int} (h : (bestN N s q).2 = false) : askN N s q t = ⟨7, [], [], false, []⟩ := by
 unfold askN
 rw [h, if_neg Bool.false_ne_true]
theorem next_lame {N : NetL} {s : StateL} {t : Int} (hN : GoodNet N) (hs : GoodSt N s) (h0 : s.fin = 0) :
  ((bestN N s.sv s.name).2 = true → ∀ x ∈ nextS N s t, x.fin ≠ 6 ∧ x.fin ≠ 5) ∧
  ((bestN N s.sv s.name).2 = false → nextS N s t = [{ s with fin := if s.ref = true then 6 else 5 }]) := by
 constructor
 ·intro hb x hx
  have hk := ask_kinds (t := t) hb
  have he : ∀ {s0 : StateL} {k : Int}, x ∈ endS s0 k → k ≠ 6 → k ≠ 5 → x.fin ≠ 6 ∧ x.fin ≠ 5 := fun h h1 h2 => by
   rw [List.mem_singleton.1 h]; exact ⟨h1, h2⟩
  have h00 : x.fin = 0 → x.fin ≠ 6 ∧ x.fin ≠ 5 := fun h => by omega
  unfold nextS at hx
  rw [if_pos h0] at hx
  split at hx
  ·exact he hx (by decide) (by decide)
  split at hx
  ·exact he hx (by decide) (by decide)
  split at hx
  ·exact he hx (by decide) (by decide)
  split at hx
  ·exact he hx (by decide) (by decide)
  split at hx
  ·unfold aliasS at hx
   split at hx
   ·exact he hx (by decide) (by decide)
   split at hx
   ·rw [List.mem_singleton.1 hx]; dsimp only; omega
   ·unfold rootsS at hx
    obtain ⟨k, _, rfl⟩ := List.mem_map.1 hx
    dsimp only; omega
  split at hx
  ·unfold referS at hx
   split at hx
   ·exact he hx (by decide) (by decide)
   obtain ⟨h, _, hx⟩ := List.mem_flatMap.1 hx
   unfold hostS at hx
   rcases List.mem_append.1 hx with hx | hx
   ·split at hx
    ·exact he hx (by decide) (by decide)
    ·cases hx
   ·obtain ⟨k, _, rfl⟩ := List.mem_map.1 hx
    dsimp only; omega
  omega
 ·intro hb
  unfold nextS
  rw [if_pos h0, ask_none hb]
  dsimp only
  rw [if_neg (by decide), if_neg (by decide), if_neg (by decide), if_neg (by decide), if_neg (by decide), if_neg (by decide)]
  unfold endS
  cases s.ref <;> simp
set_option maxRecDepth 10000
theorem StC.ext {w x : World} {cs : List Value} {s : StateL} (h : StC w cs s) (hE : Ext w x) : StC x cs s := by
 obtain ⟨nv, e, h1⟩ := h.ex
 exact ⟨nv, e, h1.ext hE⟩
def Known20 : Prop := ∀ w : World, Fn Tryz.prog 31 #[] w (fun v w' => v = .bool true ∧ Ext w w')
set_option maxHeartbeats 4000000 in
theorem StepLame_ok (hkn : Known20) (W : World) {cs sc : List Value} {N : NetL} {s : StateL} {t : Int} (hN : NetAt W cs N) (hv : NumN N) (hs : StC W sc s) :
  Fn Tryz.prog 10 #[.agg cs.toArray, .agg sc.toArray, vi t] W (fun v w' => v = .bool true ∧ Ext W w') := by
 have hN0 := hN
 have hs0 := hs
 obtain ⟨hsv, rv, rfl, hh, hr⟩ := hN.ex
 obtain ⟨nv, rfl, hnm⟩ := hs.ex
 obtain ⟨ah, ch, hhv, _⟩ := hh.open
 obtain ⟨ar, cr, hrv, _⟩ := id hr
 obtain ⟨an, cn, hnv, _⟩ := id hnm
 unfold stV
 refine enter Tryz.func10 Tryz.ntmps10 rfl rfl ?_
 repeat refine c_r ?_
 rw [hhv, hrv, hnv]
 refine rg0 ?_
 rw [← hhv, ← hrv, ← hnv]
 repeat refine c_r ?_
 rw [new_size]
 refine W_alloc2 ?_
 intro w1 hE1 hs1 hA hB
 have dN : cellsO w1 (some ⟨W.heap.size, 0, Option.none⟩) 4 = some [hsv, rv, vi N.rw, vi N.rf] := sv_cells hA rfl
 have dS : cellsO w1 (some ⟨W.heap.size + 1, 0, Option.none⟩) 6 = some (stV nv s) := sv_cells hB rfl
 have p0 : cellO w1 (some ⟨W.heap.size + 1, 0, Option.none⟩) = some (vi s.sv) := cellO_at hB rfl
 have p1 : cellO w1 (some ⟨W.heap.size + 1, 1, Option.none⟩) = some nv := cellO_at hB rfl
 have p4 : cellO w1 (some ⟨W.heap.size + 1, 4, Option.none⟩) = some (.bool s.ref) := cellO_at hB rfl
 have p5 : cellO w1 (some ⟨W.heap.size + 1, 5, Option.none⟩) = some (vi s.fin) := cellO_at hB rfl
 repeat refine c_r ?_
 refine rc trivial (hkn w1) ?_
 rintro _ w2 ⟨rfl, hE2⟩
 refine re trivial ?_
 repeat refine c_r ?_
 refine wf trivial ?_
 have dN2 := cellsO_ext hE2 dN
 have dS2 := cellsO_ext hE2 dS
 have hE12 := hE1.trans hE2
 repeat refine c_r ?_
 refine W_mono (Q := fun e σ' ds' v' => e = .normal ∧ ds' = [] ∧ σ' 2 = vi t ∧ σ' 3 = .pointer (some ⟨W.heap.size, 0, Option.none⟩) ∧ σ' 4 = .pointer (some ⟨W.heap.size + 1, 0, Option.none⟩) ∧ Ext w2 v' ∧ ∃ bb, σ' 26 = .bool bb ∧ (bb = false → GoodNet N ∧ GoodSt N s ∧ s.fin = 0)) ?_ ?_
 ·refine rcg [(3, 16), (9, 22)] dN2 (Good16_ok w2 (hN0.ext hE12) hv) ?_
  rintro _ w3 ⟨hE3, b, rfl, hb⟩
  cases b with
  | false =>
   refine reg [(3, 16), (9, 22)] Bool.not_false ?_
   exact ⟨rfl, rfl, vq0, vq0, vq0, hE3, _, vr0, fun h => by cases h⟩
  | true =>
   refine rdg [(3, 16), (9, 22)] (an3 (cellsO_ext hE3 dN2) (cellsO_ext hE3 dS2) Bool.not_true) (good20_ok (hE12.trans hE3) hN0 (hs0.ext (hE12.trans hE3))) ?_
   rintro _ w4 ⟨rfl, hE4⟩
   cases hg : goodS N s with
   | false =>
    refine reg [(3, 16), (9, 22)] Bool.not_false ?_
    exact ⟨rfl, rfl, vq0, vq0, vq0, hE3.trans hE4, _, vr0, fun h => by cases h⟩
   | true =>
    have p5' := cellO_ext ((hE2.trans hE3).trans hE4) p5
    refine reg [(3, 16), (9, 22)] (an3 p5' Nat.zero_add Bool.not_true) ?_
    exact ⟨rfl, rfl, vq0, vq0, vq0, hE3.trans hE4, _, vr0, fun h => ⟨hb rfl, goodS_iff.1 hg, by simpa using h⟩⟩
 rintro _ σ1 _ w3 ⟨rfl, rfl, s2, s3, s4, hE3, bb, s26, hbb⟩
 have hE13 := hE12.trans hE3
 repeat refine c_r ?_
 cases bb with
 | true =>
  refine wt s26 ?_
  repeat (first | refine c_r ?_ | refine rg0 ?_)
  refine rt0 Tryz.ntmps10 ?_
  exact ⟨rfl, hE13⟩
 | false =>
 refine wf s26 ?_
 obtain ⟨gN, gS, hfin⟩ := hbb rfl
 clear hbb s26
 have dN3 := cellsO_ext hE3 dN2
 have dS3 := cellsO_ext hE3 dS2
 repeat refine c_r ?_
 refine rc (an5 s2 s3 s4 dN3 dS3) (Next_ok (t := t) hE13 hN0 gN.z (hs0.ext hE13) (gS.b gN)) ?_
 rintro lv w4 ⟨hE4, hrows⟩
 refine re trivial ?_
 obtain ⟨aL, cL, rfl, hcL, hgL⟩ := hrows.open
 obtain ⟨L, hL⟩ : ∃ L, nextS N s t = L := ⟨_, rfl⟩
 obtain ⟨hlm1, hlm2⟩ := next_lame (t := t) gN gS hfin
 have hne : L ≠ [] := hL ▸ next_ne gN gS hfin
 have hLlen : L.length ≤ 2000000 := hL ▸ next_len gN.z (goodN_g gS.nm).m
 rw [hL] at hrows hcL hlm1 hlm2 ⊢
 simp only [hL] at hgL
 have hE14 := hE13.trans hE4
 have hE24 := (hE2.trans hE3).trans hE4
 have dN4 := cellsO_ext hE24 dN
 have p04 := cellO_ext hE24 p0
 have p14 := cellO_ext hE24 p1
 have hpos : ¬ ((L.length : Int) = 0) := by
  have := List.length_pos_iff.2 hne
  omega
 repeat refine c_r ?_
 refine rg1 (decide_eq_false hpos) ?_
 repeat refine c_r ?_
 refine wf trivial ?_
 repeat refine c_r ?_
 refine rc (an7 s3 s4 dN4 p04 p14 Nat.add_zero Nat.zero_add) (Serves_ok (s := s.sv) hE14 hN0 gN.z (hnm.ext hE14) (goodN_g gS.nm).m) ?_
 rintro _ w5 ⟨rfl, hE5⟩
 refine re trivial ?_
 have hE15 := hE14.trans hE5
 have p45 := cellO_ext (hE24.trans hE5) p4
 obtain ⟨sb, hsb⟩ : ∃ b, (bestN N s.sv s.name).2 = b := ⟨_, rfl⟩
 rw [hsb] at hlm1 hlm2 ⊢
 have hF : ∀ x ∈ L, (sb = true ∧ x.fin ≠ 6 ∧ x.fin ≠ 5) ∨ (sb = false ∧ x.fin = if s.ref = true then 6 else 5) := fun x hx => by
  cases sb with
  | true => exact .inl ⟨rfl, hlm1 rfl x hx⟩
  | false =>
   rw [hlm2 rfl] at hx
   exact .inr ⟨rfl, by rw [List.mem_singleton.1 hx]⟩
 repeat refine c_r ?_
 refine rg0 ?_
 repeat refine c_r ?_
 refine W_loop (fun m σ ds A => ds = [] ∧ ∃ (i : Nat), i + m = L.length ∧ σ 9 = vi i ∧ σ 7 = .slice aL L.length cL ∧ σ 8 = .bool sb ∧ σ 4 = .pointer (some ⟨W.heap.size + 1, 0, Option.none⟩) ∧ Ext w5 A) L.length ?_ ?_
 ·exact ⟨rfl, 0, by omega, vr0, vq0, vq0, (vq1 s4), Keep.refl _ _⟩
 clear s2 s3 s4 dN2 dS2 dN3 dS3
 rintro m σ ds A ⟨rfl, i, him, s9, s7, s8, s4, hEA⟩
 repeat refine c_r ?_
 refine rg2 s9 s7 ?_
 repeat refine c_r ?_
 refine wc0 ?_ ?_
 ·intro hlt
  simp only [decide_eq_true_eq] at hlt
  have hi : i < L.length := by omega
  have hi0 : (0 : Int) ≤ (i : Int) := by omega
  have hi1' : (i : Int) + 1 = ((i + 1 : Nat) : Int) := by push_cast; rfl
  obtain ⟨cx, hcx, hX⟩ := hgL i hi
  obtain ⟨y, hye⟩ : ∃ y, L[i] = y := ⟨_, rfl⟩
  rw [hye] at hX
  have hy := hF y (hye ▸ List.getElem_mem hi)
  obtain ⟨ny, rfl, hny⟩ := hX.ex
  obtain ⟨xL, rfl⟩ := Option.isSome_iff_exists.1 (cellsO_some hcx)
  obtain ⟨xi, hxi⟩ : ∃ xi, adr (some xL) (i * 6) = some xi := ⟨_, rfl⟩
  rw [hxi] at hcx
  obtain ⟨x5, hx5⟩ : ∃ u, adr (some xi) 5 = some u := ⟨_, rfl⟩
  have g5 : cellO w4 (some x5) = some (vi y.fin) := hx5 ▸ cell_of_cells hcx rfl
  have g5A := cellO_ext (hE5.trans hEA) g5
  have p4A := cellO_ext hEA p45
  repeat refine c_r ?_
  refine W_mono (Q := fun e σ' ds' v' => e = .normal ∧ ds' = [] ∧ v' = A ∧ σ' 9 = vi i ∧ σ' 7 = .slice (some xL) L.length cL ∧ σ' 8 = .bool sb ∧ σ' 4 = .pointer (some ⟨W.heap.size + 1, 0, Option.none⟩) ∧ σ' 10 = .bool (!sb)) ?_ ?_
  ·rcases hy with ⟨rfl, n6, n5⟩ | ⟨rfl, hy⟩
   ·refine rgg [(6, 52)] (an8 s9 s7 hi0 hlt hxi hx5 g5A (an2 (decide_eq_false n6) (decide_eq_false n5))) ?_
    exact ⟨rfl, rfl, rfl, (vq1 s9), (vq1 s7), (vq1 s8), (vq1 s4), vr0⟩
   ·cases hrf : s.ref with
    | true =>
     rw [hrf, if_pos rfl] at hy
     refine rgg [(6, 52)] (an8 s9 s7 hi0 hlt hxi hx5 g5A (decide_eq_true hy)) ?_
     exact ⟨rfl, rfl, rfl, (vq1 s9), (vq1 s7), (vq1 s8), (vq1 s4), vr0⟩
    | false =>
     rw [hrf, if_neg Bool.false_ne_true] at hy
     have n6 : ¬ y.fin = 6 := by omega
     refine rgg [(6, 52)] (an8 s9 s7 hi0 hlt hxi hx5 g5A (an2 (decide_eq_false n6) (decide_eq_true hy))) ?_
     exact ⟨rfl, rfl, rfl, (vq1 s9), (vq1 s7), (vq1 s8), (vq1 s4), vr0⟩
  clear s9 s7 s8 s4
  rintro _ σ3 _ _ ⟨rfl, rfl, rfl, s9, s7, s8, s4, s10⟩
  repeat refine c_r ?_
  refine W_mono (Q := fun e σ' ds' v' => e = .normal ∧ ds' = [] ∧ Ext w5 v' ∧ σ' 9 = vi i ∧ σ' 7 = .slice (some xL) L.length cL ∧ σ' 8 = .bool sb ∧ σ' 4 = .pointer (some ⟨W.heap.size + 1, 0, Option.none⟩) ∧ σ' 76 = .bool false) ?_ ?_
  ·rcases hy with ⟨rfl, n6, n5⟩ | ⟨rfl, hy⟩
   ·refine W_drw (fun _ => false) [(0, true), (1, true), (2, true), (3, true), (4, true), (5, true), (6, true), (7, true), (8, true), (9, true), (10, true), (11, true), (12, true), (13, true), (14, true), (15, true), (16, true)] NoS mixed (by kernel_rfl) ?_; intro gd K x hgd hx hxe hK; clear hxe
    have hg3 : ∀ n σ b, wantV gd n σ (some (3, b)) = boolIs (ev n σ (.tmp 63)) b := (fun n σ b => by rw [wantV_some, show gd 3 = some 63 from (by rw [hgd]; rfl)]; rfl); have hg5 : ∀ n σ b, wantV gd n σ (some (5, b)) = boolIs (ev n σ (.tmp 65)) b := (fun n σ b => by rw [wantV_some, show gd 5 = some 65 from (by rw [hgd]; rfl)]; rfl)
    have g5x := cellO_ext hx g5A
    have p4x := cellO_ext hx p4A
    simp (disch := first | omega | assumption | rfl) only [↓reduceIte, go_sem, Nat.reduceLT, Nat.reduceEqDiff, Nat.reduceSub, s9, s7, s8, s4, s10, hi0, hlt, hxi, hx5, g5x, p4x, Nat.zero_add, Bool.not_true, Bool.not_false, bi_un, ↓hg3, ↓hg5]
    refine hK _ _ ?_; clear hK hgd; clear K; try clear gd
    exact ⟨rfl, rfl, hEA.trans hx, (vq1 s9), (vq1 s7), (vq1 s8), (vq1 s4), vr0⟩
   ·have hyd : (decide (y.fin = 6) == s.ref) = true := by
     rw [hy]
     cases s.ref <;> rfl
    refine W_drw (fun _ => false) [(0, true), (1, true), (2, true), (3, true), (4, true), (5, true), (6, true), (7, true), (8, true), (9, true), (10, true), (11, true), (12, true), (13, true), (14, true), (15, true), (16, true)] NoS mixed (by kernel_rfl) ?_; intro gd K x hgd hx hxe hK; clear hxe
    have hg3 : ∀ n σ b, wantV gd n σ (some (3, b)) = boolIs (ev n σ (.tmp 63)) b := (fun n σ b => by rw [wantV_some, show gd 3 = some 63 from (by rw [hgd]; rfl)]; rfl); have hg5 : ∀ n σ b, wantV gd n σ (some (5, b)) = boolIs (ev n σ (.tmp 65)) b := (fun n σ b => by rw [wantV_some, show gd 5 = some 65 from (by rw [hgd]; rfl)]; rfl)
    have g5x := cellO_ext hx g5A
    have p4x := cellO_ext hx p4A
    simp (disch := first | omega | assumption | rfl) only [↓reduceIte, go_sem, Nat.reduceLT, Nat.reduceEqDiff, Nat.reduceSub, s9, s7, s8, s4, s10, hi0, hlt, hxi, hx5, g5x, p4x, Nat.zero_add, Bool.not_true, Bool.not_false, bi_un, hyd, ↓hg3, ↓hg5]
    refine hK _ _ ?_; clear hK hgd; clear K; try clear gd
    exact ⟨rfl, rfl, hEA.trans hx, (vq1 s9), (vq1 s7), (vq1 s8), (vq1 s4), vr0⟩
  clear s9 s7 s8 s4 s10
  rintro _ σ4 _ B ⟨rfl, rfl, hEB, s9, s7, s8, s4, s76⟩
  repeat refine c_r ?_
  refine wf s76 ?_
  repeat refine c_r ?_
  refine rg2 s9 hi1' ?_
  repeat refine c_r ?_
  exact ⟨m - 1, by omega, rfl, i + 1, by omega, vq0, (vq1 s7), (vq1 s8), (vq1 s4), hEB⟩
 ·intro hge
  simp only [decide_eq_false_iff_not] at hge
  repeat refine c_r ?_
  cases sb with
  | true =>
   refine rgg [(1, 78)] s8 ?_
   repeat refine c_r ?_
   refine rt0 Tryz.ntmps10 ?_
   exact ⟨rfl, hE15.trans hEA⟩
  | false =>
   have hl1 : (L.length : Int) = 1 := by rw [hlm2 rfl]; rfl
   refine rgg [(1, 78)] (an3 s8 s7 (decide_eq_true hl1)) ?_
   repeat refine c_r ?_
   refine rt0 Tryz.ntmps10 ?_
   exact ⟨rfl, hE15.trans hEA⟩
end Go.Proofs.YtopbbjdembnfdaaGreat
namespace Go.Proofs.YtopbbjdembnfdaaGreat
open Go Go.ChangeShapes Go.WideShapes Go.ChangeAt Go.RowKit Go.WideElems
theorem Ext.below {w x : World} (h : Ext w x) : RowKit.Below w.heap.size w x := ⟨h.os, h.tape, h.output, h.size, fun k hk => h.block k hk (fun h => h)⟩
theorem Ext.kept {w x : World} (h : Ext w x) (may : MemPlace → Prop) : w.keptBut x may := by
 refine ⟨h.os, h.output, fun i hi => ?_⟩
 rw [h.block i hi (fun h => h)]
 cases hw : w.heap[i]? with
 | none => trivial
 | some o => cases o <;> simp
theorem trodAll_stays {H : Type} {enc : TypeId × Value → H} {P : Program} (hl : laidOutB P = true) {W W' : World} {sp : Nat → Bool} (hE : Ext W W') :
  ∀ {ts : List TypeId} {vs : List Value} {ds : List (DataW H)} {ps : List MemPlace}, (∀ t ∈ ts, P.readableRec t = true ∧ t < P.types.size) → DataW.TrodAll enc P W 0 (fun _ => true) true ts vs ds ps → (∀ x ∈ ps, x.block < W.heap.size) → (∀ x ∈ ps, sp x.block = true) →
   DataW.TrodAll enc P W' 0 sp true ts vs ds ps
 | [], _, _, _, _, h, _, _ => by
  obtain ⟨rfl, rfl, rfl⟩ := trodAll_nil h
  exact trodAll_mk0
 | _ :: _, _, _, _, ht, h, hlt, hs => by
  obtain ⟨v, vs1, d, ds1, a, b, rfl, rfl, rfl, h1, h2⟩ := trodAll_cons h
  obtain ⟨hr, hrow⟩ := ht _ (List.mem_cons_self ..)
  exact trodAll_cons_mk (WideElems.Trod_stays hl hr hrow h1 (fun x hx => hE.below.same (hlt x (List.mem_append_left _ hx))) (fun x hx => hs x (List.mem_append_left _ hx)))
   (trodAll_stays hl hE (fun t h => ht t (List.mem_cons_of_mem _ h)) h2 (fun x hx => hlt x (List.mem_append_right _ hx)) (fun x hx => hs x (List.mem_append_right _ hx)))
theorem frozen_ext {w x : World} (h : Ext w x) {b : Nat} (hb : b < w.heap.size) (o : Nat) : x.frozen? ⟨b, o, Option.none⟩ = w.frozen? ⟨b, o, Option.none⟩ := by
 unfold World.frozen?
 rw [h.block b hb (fun h => h)]
theorem law_post {H : Type} {enc : TypeId × Value → H} {P : Program} {f : Func} {s : ChangeSpec} {apart fresh handsOn again : Bool} {W W' : World} {args : Array Value} {ds gs : List (DataW H)} {before : List MemPlace}
  (hW : DataW.Whole enc P f.params.toList s.vars apart W args.toList ds gs before) (hvn : s.vars = []) (hspec : s.fn H ds = { results := [.lit (.bool true)], args := ds }) {tb : TypeId} (hrt : f.resultTypes = #[tb]) (htb : P.underlying tb = some .bool)
  (hl : laidOutB P = true) (hrd : ∀ t ∈ f.params.toList, P.readableRec t = true ∧ t < P.types.size) (hE : Ext W W') : s.post enc P f apart fresh handsOn again W args (.bool true) W' := by
 have hlt := hW.lt
 have hW0 := hW
 obtain ⟨p, q, hA, hV, hpq, hfz, hnd⟩ := hW
 have hq : gs = [] ∧ q = [] := by
  rw [hvn] at hV
  cases gs with
  | nil => exact ⟨rfl, hV⟩
  | cons _ _ => exact hV.elim
 obtain ⟨rfl, rfl⟩ := hq
 rw [List.append_nil] at hpq
 subst hpq
 have hres : ∀ (b : Nat) (sp : Nat → Bool) (hd : Bool), DataW.TrodAll enc P W' b sp hd f.resultTypes.toList ((Value.bool true).resultList f.resultTypes.size) (s.fn H (ds ++ [])).results [] := fun b sp hd => by
  rw [List.append_nil, hspec, hrt]
  exact trodAll_mk1 (shut_bool htb true)
 have hargs : ∀ sp : Nat → Bool, (∀ x ∈ before, sp x.block = true) → DataW.TrodAll enc P W' 0 sp true f.params.toList args.toList (s.fn H (ds ++ [])).args before := fun sp hs => by
  rw [List.append_nil, hspec]
  exact trodAll_stays hl hE hrd hA hlt hs
 have hvars : ∀ sp : Nat → Bool, DataW.TrodVars enc P W' sp s.vars (s.fn H (ds ++ [])).vars [] := fun sp => by
  rw [List.append_nil, hspec, hvn]; rfl
 have hold : ∀ x ∈ before, (fun b => decide (b < W.heap.size)) x.block = true := fun x hx => by simpa using hlt x hx
 refine ⟨ds, [], before, [], before, [], hW0, hres _ _ _, hargs _ hold, hvars _, hE.kept _, fun _ => ?_⟩
 refine ⟨fun j t r h1 h2 => ?_, _, _, ([] ++ before) ++ [], ⟨[] ++ before, [], trodAll_append (hargs _ (fun _ _ => rfl)) (hres _ _ _), hvars _, rfl, ?_, ?_⟩, ?_⟩
 ·rw [hrt] at h1 h2
  match j with
  | 0 =>
   simp at h1
   subst h1
   have : r = .bool true := by simpa [Value.resultList] using h2.symm
   subst this
   exact okWide_bool_mk htb true
  | j + 1 => simp at h1
 ·intro b off hp
  have hp' : MemPlace.cell b off ∈ before := by simpa using hp
  rw [frozen_ext hE (show b < W.heap.size from hlt _ hp')]
  exact hfz b off hp'
 ·intro ha
  simpa using hnd ha
 ·intro x hx _
  simpa using hx
theorem law_lift {C : Checked} {os : Os} {f : FuncId} {fn : Func} {s : ChangeSpec} {conds : List PathCond} {apart fresh handsOn again : Bool} {H : Type} {enc : TypeId × Value → H}
  (own : ownKnob C.prog.godebug = none) (started : os.Started) (noInit : C.prog.inits.idxOf? f = none) (hfn : C.prog.funcs[f]? = some fn)
  (witness : ∃ (w : World) (tape : Tape) (i : Input), w.os = os ∧ (w.forCall tape i).Shaped C.prog ∧ i.vars = [] ∧ Input.okWide C.prog (w.forCall tape i) .any w.heap.size f i ∧
   s.pre6 enc C.prog fn conds apart (w.forCall tape i).memory i.args ∧ ({} : Assume).holds C.prog (lone (Frame.enter C.prog f i.args .normal) [] (w.forCall tape i)))
  (hvn : s.vars = []) (hspec : ∀ ds : List (DataW H), ds.length = fn.params.size → s.fn H ds = { results := [.lit (.bool true)], args := ds }) {tb : TypeId} (hrt : fn.resultTypes = #[tb]) (htb : C.prog.underlying tb = some .bool)
  (hl : laidOutB C.prog = true) (hrd : fn.params.toList.all (fun t => C.prog.readableRec t && decide (t < C.prog.types.size)) = true)
  (walk : ∀ (W : World) (base : Nat) (args : List Value) (ds : List (DataW H)) (p : List MemPlace), (∀ (j : Nat) t v, fn.params[j]? = some t → args[j]? = some v → Value.okWide C.prog W .any base t v) →
   DataW.TrodAll enc C.prog W 0 (fun _ => true) true fn.params.toList args ds p → (∀ x ∈ DataW.weightsEach C.prog fn.params.toList ds, x ≤ reachBytes) → Fn C.prog f args.toArray W (fun v W' => v = .bool true ∧ Ext W W')) :
  ReturnsInHanded {} C os f .any (s.pre6 enc C.prog fn conds apart) (s.post enc C.prog fn apart fresh handsOn again) := by
 refine returnsInHanded_of_change_sized own started noInit hfn witness ?_
 intro W base args ds gs before hval hW _ hwt _
 have hW0 := hW
 obtain ⟨p, q, hA, hV, _⟩ := hW
 have hgs : gs = [] := by
  rw [hvn] at hV
  cases gs with
  | nil => rfl
  | cons _ _ => exact hV.elim
 subst hgs
 have hvt : s.plain.varTypes C.prog = [] := by
  unfold DataSpec.varTypes
  rw [show s.plain.vars = [] from hvn]; rfl
 rw [hvt, List.append_nil, List.append_nil] at hwt
 have hlen : ∀ {ts : List TypeId} {vs : List Value} {ds : List (DataW H)} {ps : List MemPlace}, DataW.TrodAll enc C.prog W 0 (fun _ => true) true ts vs ds ps → ds.length = ts.length := by
  intro ts
  induction ts with
  | nil => intro vs ds ps h; obtain ⟨rfl, rfl, rfl⟩ := trodAll_nil h; rfl
  | cons t ts ih =>
   intro vs ds ps h
   obtain ⟨v, vs1, d, ds1, a, b, rfl, rfl, rfl, h1, h2⟩ := trodAll_cons h
   simp [ih h2]
 have hw := walk W base args.toList ds p (fun j t v h1 h2 => hval j t v h1 (by simpa using h2)) hA (fun x hx => by simpa using (List.all_eq_true.1 hwt) x hx)
 rw [Array.toArray_toList] at hw
 refine Calls.mono (callsIn_wide.1 hw) ?_
 rintro e W' ⟨v, rfl, rfl, hE⟩
 refine ⟨_, rfl, law_post hW0 hvn (hspec ds (by rw [hlen hA]; simp)) hrt htb hl (fun t ht => ?_) hE⟩
 have := (List.all_eq_true.1 hrd) t ht
 simpa using this
/-! arguments -/
section
variable {H : Type} {enc : TypeId × Value → H} {P : Program} {w : World} {base : Nat} {sp : Nat → Bool} {held : Bool}
def Rd (enc : TypeId × Value → H) (P : Program) (w : World) (base : Nat) (sp : Nat → Bool) (held : Bool) (t : TypeId) (v : Value) : Prop := ∃ n x, DataW.trod enc P w base sp held n t [v] = some x ∧ ∀ k ∈ x.1.weights P t, k ≤ reachBytes
theorem weightsAll_in {e : TypeId} {d : DataW H} {k : Nat} : ∀ {l : List (DataW H)}, d ∈ l → k ∈ d.weights P e → k ∈ DataW.weightsAll P e l
 | a :: l, hd, hk => by
  simp only [DataW.weightsAll, List.mem_append]
  rcases List.mem_cons.1 hd with rfl | hd
  ·exact .inl hk
  ·exact .inr (weightsAll_in hd hk)
theorem rd_slice {t e : TypeId} {v : Value} (h : Rd enc P w base sp held t v) (ht : P.underlying t = some (.slice e)) (hc : P.cellsOf e = 1) :
  ∃ vals, Row w v vals ∧ (∀ u ∈ vals, Rd enc P w base sp held e u) ∧ vals.length * P.bytesOf e ≤ reachBytes := by
 obtain ⟨n, x, h, hw⟩ := h
 rcases Go.Deep.open_slice1 ht hc h with ⟨h1, _⟩ | ⟨a, len, cap, m, k, V, D, Pl, h1, _, hl, hm, hmm, rfl, hx⟩
 ·simp only [List.cons.injEq, and_true] at h1
  subst h1
  exact ⟨[], ⟨Option.none, 0, rfl, Nat.le_refl _, fun j h => by simp at h⟩, fun u h => (by cases h), by simp⟩
 ·simp only [List.cons.injEq, and_true] at h1
  subst h1
  have hml : len ≤ m := by rw [hmm]; split <;> omega
  simp only [DataW.weights, ht] at hw
  refine ⟨(List.range len).map V, ⟨some a, cap, by simp, by simpa using hl, fun j hj => ?_⟩, fun u hu => ?_, ?_⟩
  ·simp at hj
   have := (hx j (by omega)).1
   simpa [cellO, adr] using this
  ·obtain ⟨j, hj, rfl⟩ := List.mem_map.1 hu
   simp at hj
   refine ⟨_, _, (hx j (by omega)).2, fun q hq => hw q (List.mem_cons_of_mem _ (List.mem_append_left _ (weightsAll_in (d := D j) ?_ hq)))⟩
   exact List.mem_map.2 ⟨j, by simpa using hj, rfl⟩
  ·have h1 := hw _ (List.mem_cons_self ..)
   have h2 : ((List.range len).map V).length * P.bytesOf e ≤ (((List.range len).map D).length + ((List.range (m - len)).map fun j => D (len + j)).length) * P.bytesOf e := Nat.mul_le_mul (by simp) (Nat.le_refl _)
   omega
theorem rd_string {t : TypeId} {v : Value} (h : Rd enc P w base sp held t v) (ht : P.underlying t = some .string) : ∃ s : List UInt8, v = vs s ∧ s.length ≤ reachBytes := by
 obtain ⟨n, x, h, hw⟩ := h
 cases n with
 | zero => cases h
 | succ n =>
  unfold DataW.trod at h
  rw [ht] at h
  cases v <;> simp at h
  rename_i s
  obtain ⟨_, rfl⟩ := h
  exact ⟨s.data.toList, by simp [vs], by simpa [DataW.weights, ByteArray.toList_eq] using hw⟩
theorem list_of {α β : Type} {f : α → β} {Q : α → Prop} : ∀ {l : List β}, (∀ u ∈ l, ∃ s, u = f s ∧ Q s) → ∃ m : List α, l = m.map f ∧ ∀ s ∈ m, Q s
 | [], _ => ⟨[], rfl, fun s h => by cases h⟩
 | b :: l, h => by
  obtain ⟨s, rfl, hq⟩ := h b (List.mem_cons_self ..)
  obtain ⟨m, rfl, hm⟩ := list_of (fun u hu => h u (List.mem_cons_of_mem _ hu))
  refine ⟨s :: m, rfl, fun x hx => ?_⟩
  rcases List.mem_cons.1 hx with rfl | hx
  ·exact hq
  ·exact hm x hx
end
end Go.Proofs.YtopbbjdembnfdaaGreat
namespace Go.Proofs.YtopbbjdembnfdaaGreat
open Go
section
variable {H : Type} {enc : TypeId × Value → H} {P : Program} {w : World} {base : Nat} {sp : Nat → Bool} {held : Bool}
structure NmOk (n : Nm) : Prop where
 lb : LB n
 len : n.length ≤ 100000000000000
theorem reach_lt : reachBytes < 140737488355328 := by decide
theorem rd_name {t e : TypeId} {v : Value} (h : Rd enc P w base sp held t v) (ht : P.underlying t = some (.slice e)) (hc : P.cellsOf e = 1) (he : P.underlying e = some .string) (hb : P.bytesOf e = 16) : ∃ n : Nm, Row w v (n.map vs) ∧ NmOk n := by
 obtain ⟨vals, hr, hall, hl⟩ := rd_slice h ht hc
 obtain ⟨m, rfl, hm⟩ := list_of (f := vs) (fun u hu => rd_string (hall u hu) he)
 have := reach_lt
 rw [hb] at hl
 exact ⟨m, hr, fun l hl => by have := hm l hl; omega, by simp at hl; omega⟩
theorem rd_names {t ts tb : TypeId} {v : Value} (h : Rd enc P w base sp held t v) (ht : P.underlying t = some (.slice ts)) (hc : P.cellsOf ts = 1) (ht2 : P.underlying ts = some (.slice tb)) (hc2 : P.cellsOf tb = 1) (he : P.underlying tb = some .string) (hb : P.bytesOf tb = 16) :
  ∃ L : List Nm, NamesAt w v L ∧ ∀ n ∈ L, NmOk n := by
 obtain ⟨vals, hr, hall, hlen0⟩ := rd_slice h ht hc
 have : ∃ L : List Nm, (vals.length = L.length ∧ ∀ i (h : i < vals.length) (h' : i < L.length), Row w vals[i] (L[i].map vs)) ∧ ∀ n ∈ L, NmOk n := by
  clear hr h hlen0
  induction vals with
  | nil => exact ⟨[], ⟨rfl, fun i h => by simp at h⟩, fun n h => by cases h⟩
  | cons u vals ih =>
   obtain ⟨n, hn, hok⟩ := rd_name (hall u (List.mem_cons_self ..)) ht2 hc2 he hb
   obtain ⟨L, ⟨h1, h2⟩, h3⟩ := ih (fun x hx => hall x (List.mem_cons_of_mem _ hx))
   refine ⟨n :: L, ⟨by simp [h1], fun i a b => ?_⟩, fun x hx => ?_⟩
   ·cases i with
    | zero => exact hn
    | succ i => exact h2 i (by simpa using a) (by simpa using b)
   ·rcases List.mem_cons.1 hx with rfl | hx
    ·exact hok
    ·exact h3 x hx
 obtain ⟨L, ⟨h1, h2⟩, h3⟩ := this
 exact ⟨L, ⟨vals, hr, h1, h2⟩, h3⟩
end
end Go.Proofs.YtopbbjdembnfdaaGreat
