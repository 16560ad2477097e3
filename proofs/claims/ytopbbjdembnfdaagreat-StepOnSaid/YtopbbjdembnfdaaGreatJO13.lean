/-
  Texts of a proof, joined: X1, X2, KC, KN.
  Conditions: none.
-/
import Derived.Test.YtopbbjdembnfdaaGreatJO12
import Derived.ProofKit
import Derived.OpenShut
import Derived.SizedLaws
import Derived.Deep.Slices
import Derived.Test.YtopbbjdembnfdaaGreatJO02
import Derived.Test.YtopbbjdembnfdaaGreatJO03
set_option linter.unusedVariables false
set_option linter.unusedSimpArgs false
set_option linter.defProp false
set_option linter.unnecessarySimpa false
namespace Go.Proofs.YtopbbjdembnfdaaGreat
open Go
theorem sum_two : ∀ {n : Nm}, (∀ l ∈ n, l ≠ []) → 2 * n.length ≤ (n.map fun l => 1 + l.length).sum
 | [], _ => by simp
 | l :: n, h => by
  have h1 := List.length_pos_iff.2 (h l (List.mem_cons_self ..))
  have h2 := sum_two (n := n) fun m hm => h m (List.mem_cons_of_mem _ hm)
  rw [List.map_cons, List.sum_cons, List.length_cons]; omega
theorem check_short {n : Nm} (h : checkN n = 0) : n.length ≤ 127 := by
 have hl := checkN_labels h
 have h2 := sum_two fun l hm => (hl l hm).1
 unfold checkN at h
 cases hf : n.find? (fun l => decide (errL l ≠ 0)) with
 | some x =>
  rw [hf] at h
  have h1 := List.find?_some hf
  simp at h1
  exact absurd h h1
 | none =>
  rw [hf] at h
  dsimp only at h
  split at h
  ·cases h
  ·rename_i h3
   unfold lenN at h3
   omega
theorem good_check {n : Nm} (h : checkN n = 0) : goodN n = true := by
 unfold goodN
 rw [Bool.and_eq_true, decide_eq_true_eq]
 refine ⟨?_, h⟩
 have h1 := checkN_labels h
 have h2 := check_short h
 unfold few
 simp only [Bool.and_eq_true, decide_eq_true_eq, List.all_eq_true]
 refine ⟨by omega, fun l hl => by have := (h1 l hl).2; omega⟩
theorem GoodSt.b {N : NetL} {s : StateL} (h : GoodSt N s) (hN : GoodNet N) : StB s := ⟨(goodN_g h.nm).m, h.w0, by have := h.w1; have := hN.w.2; omega, h.f0, by have := h.f1; have := hN.f.2; omega⟩
structure NextF (N : NetL) (s x : StateL) : Prop where
 g : GoodSt N x
 w : s.rw ≤ x.rw
 f : s.rf ≤ x.rf
 m1 : x.rw - s.rw + x.rf - s.rf ≤ 1
 go : x.fin = 0 → x.rw - s.rw + x.rf - s.rf = 1
theorem ends_F {N : NetL} {s s0 x : StateL} {k : Int} (hs : GoodSt N s) (hk : 1 ≤ k ∧ k ≤ 9) (hw : s0.rw = s.rw) (hf : s0.rf ≤ s.rf ∧ s.rf ≤ s0.rf + 1) (hx : x ∈ endS s k) : NextF N s0 x := by
 rw [List.mem_singleton.1 hx]
 exact ⟨⟨hs.s0, hs.s1, hs.nm, hs.w0, hs.w1, hs.f0, hs.f1, by dsimp only; omega, hk.2⟩, by dsimp only; omega, by dsimp only; omega, by dsimp only; omega, fun h => by dsimp only at h; omega⟩
theorem pickI_in {α : Type} {p : α → Bool} : ∀ {l : List α} {i : Nat} {k : Int}, k ∈ pickI p i l → (i : Int) ≤ k ∧ k < (i : Int) + (l.length : Int)
 | [], i, k, h => by cases h
 | a :: l, i, k, h => by
  unfold pickI at h
  rcases List.mem_append.1 h with h | h
  ·split at h
   ·rw [List.mem_singleton.1 h, List.length_cons]; omega
   ·cases h
  ·have := pickI_in h
   rw [List.length_cons]; omega
theorem aliasS_F {N : NetL} {s x : StateL} {to : Nm} (hN : GoodNet N) (hs : GoodSt N s) (h0 : s.fin = 0) (ht : checkN to = 0) (hx : x ∈ aliasS N s to) : NextF N s x := by
 unfold aliasS at hx
 split at hx
 ·exact ends_F hs (by omega) rfl (by omega) hx
 rename_i hw
 have hw' : s.rw < N.rw := by omega
 have g : ∀ k : Int, 0 ≤ k → k < (N.hosts.length : Int) → NextF N s { s with rw := s.rw + 1, name := to, ref := false, sv := k } := fun k h1 h2 =>
  ⟨⟨h1, h2, good_check ht, by have := hs.w0; dsimp only; omega, by dsimp only; omega, hs.f0, hs.f1, hs.e0, hs.e1⟩, by dsimp only; omega, by dsimp only; omega, by dsimp only; omega, fun _ => by dsimp only; omega⟩
 split at hx
 ·rw [List.mem_singleton.1 hx]
  exact g s.sv hs.s0 hs.s1
 ·unfold rootsS at hx
  obtain ⟨k, hk, rfl⟩ := List.mem_map.1 hx
  have := hN.rin k hk
  exact g k this.1 this.2
theorem referS_F {N : NetL} {s x : StateL} {r : ResL} (hs : GoodSt N s) (h0 : s.fin = 0) (hx : x ∈ referS N s r) : NextF N s x := by
 unfold referS at hx
 split at hx
 ·exact ends_F hs (by omega) rfl (by omega) hx
 rename_i hw
 have hf0 := hs.f0
 have hs2 : GoodSt N { s with rf := s.rf + 1 } := ⟨hs.s0, hs.s1, hs.nm, hs.w0, hs.w1, by dsimp only; omega, by dsimp only; omega, hs.e0, hs.e1⟩
 obtain ⟨h, _, hx⟩ := List.mem_flatMap.1 hx
 unfold hostS at hx
 rcases List.mem_append.1 hx with hx | hx
 ·split at hx
  ·exact ends_F hs2 (by omega) rfl (by dsimp only; omega) hx
  ·cases hx
 ·obtain ⟨k, hk, rfl⟩ := List.mem_map.1 hx
  unfold ofR meantL at hk
  have := pickI_in hk
  exact ⟨⟨by dsimp only; omega, by dsimp only; omega, hs.nm, hs.w0, hs.w1, by dsimp only; omega, by dsimp only; omega, hs.e0, hs.e1⟩, by dsimp only; omega, by dsimp only; omega, by dsimp only; omega, fun _ => by dsimp only; omega⟩
theorem next_F {N : NetL} {s x : StateL} {t : Int} (hN : GoodNet N) (hs : GoodSt N s) (hx : x ∈ nextS N s t) : s.fin = 0 ∧ NextF N s x := by
 have hF := ask_F (s := s.sv) (t := t) hN.z (goodN_g hs.nm).m
 unfold nextS at hx
 split at hx
 ·rename_i h0
  refine ⟨h0, ?_⟩
  repeat first | (split at hx; (first | exact ends_F hs (by omega) rfl (by omega) hx | exact aliasS_F hN hs h0 (hF.nm (by assumption)) hx | exact referS_F hs h0 hx)) | exact ends_F hs (by omega) rfl (by omega) hx
 ·cases hx
theorem next_ne {N : NetL} {s : StateL} {t : Int} (hN : GoodNet N) (hs : GoodSt N s) (h0 : s.fin = 0) : nextS N s t ≠ [] := by
 have hF := ask_F (s := s.sv) (t := t) hN.z (goodN_g hs.nm).m
 have he : ∀ k : Int, endS s k ≠ [] := fun k h => by cases h
 unfold nextS
 rw [if_pos h0]
 split
 ·exact he _
 split
 ·exact he _
 split
 ·exact he _
 split
 ·exact he _
 split
 ·unfold aliasS
  split
  ·exact he _
  split
  ·intro h; cases h
  ·intro h
   unfold rootsS at h
   have := List.map_eq_nil_iff.1 h
   have := hN.r1.1
   simp_all
 split
 ·rename_i h4
  unfold referS
  split
  ·exact he _
  ·intro h
   have hn := hF.ld h4
   obtain ⟨x, hx⟩ := List.exists_mem_of_ne_nil _ hn
   have h2 := List.flatMap_eq_nil_iff.1 h x hx
   unfold hostS at h2
   obtain ⟨h3, h5⟩ := List.append_eq_nil_iff.1 h2
   have h6 := List.map_eq_nil_iff.1 h5
   rw [h6] at h3
   cases h3
 split <;> exact he _
theorem targetsL_len {u : Int} {ds : List DatL} : (targetsL u ds).length ≤ ds.length := by
 unfold targetsL
 split
 ·exact List.length_filterMap_le _ _
 ·simp
theorem next_len {N : NetL} {s : StateL} {t : Int} (hN : NetZ N) (ms : NmM s.name) : (nextS N s t).length ≤ 2000000 := by
 have hF := ask_F (s := s.sv) (t := t) hN ms
 have he : ∀ k : Int, (endS s k).length ≤ 2000000 := fun k => by unfold endS; simp
 have h1 := hN.rl
 have h2 := hN.hl
 unfold nextS
 split
 ·repeat (split; · exact he _)
  split
  ·unfold aliasS
   split
   ·exact he _
   split
   ·simp
   ·unfold rootsS; rw [List.length_map]; omega
  split
  ·unfold referS
   split
   ·exact he _
   ·have h3 := flat_len (fun a => hostS_len (N := N) (r := askN N s.sv s.name t) (s := { s with rf := s.rf + 1 }) (h := a)) (targetsL 2 (askN N s.sv s.name t).data)
    have h4 := targetsL_len (u := 2) (ds := (askN N s.sv s.name t).data)
    have h5 := hF.dl
    have h6 : (targetsL 2 (askN N s.sv s.name t).data).length * (N.hosts.length + 1) ≤ 1000 * 1001 := Nat.mul_le_mul (by omega) (by omega)
    omega
  split <;> exact he _
 ·simp
set_option maxRecDepth 10000
theorem StC.ext {w x : World} {cs : List Value} {s : StateL} (h : StC w cs s) (hE : Ext w x) : StC x cs s := by
 obtain ⟨nv, e, h1⟩ := h.ex
 exact ⟨nv, e, h1.ext hE⟩
def Known20 : Prop := ∀ w : World, Fn Tryz.prog 31 #[] w (fun v w' => v = .bool true ∧ Ext w w')
set_option maxHeartbeats 4000000 in
theorem StepOn_ok (hkn : Known20) (W : World) {cs sc : List Value} {N : NetL} {s : StateL} {t : Int} (hN : NetAt W cs N) (hv : NumN N) (hs : StC W sc s) :
  Fn Tryz.prog 9 #[.agg cs.toArray, .agg sc.toArray, vi t] W (fun v w' => v = .bool true ∧ Ext W w') := by
 have hN0 := hN
 have hs0 := hs
 obtain ⟨hsv, rv, rfl, hh, hr⟩ := hN.ex
 obtain ⟨nv, rfl, hnm⟩ := hs.ex
 obtain ⟨ah, ch, hhv, _⟩ := hh.open
 obtain ⟨ar, cr, hrv, _⟩ := id hr
 obtain ⟨an, cn, hnv, _⟩ := id hnm
 unfold stV
 refine enter Tryz.func9 Tryz.ntmps9 rfl rfl ?_
 repeat refine c_r ?_
 rw [hhv, hrv, hnv]
 refine rg0 ?_
 rw [← hhv, ← hrv, ← hnv]
 repeat refine c_r ?_
 rw [new_size]
 refine W_alloc2 ?_
 intro w1 hE1 hs1 hA hB
 have dN : cellsO w1 (some ⟨W.heap.size, 0, Option.none⟩) 4 = some [hsv, rv, vi N.rw, vi N.rf] := sv_cells hA rfl
 have dS : cellsO w1 (some ⟨W.heap.size + 1, 0, Option.none⟩) 6 = some (stV nv s) := sv_cells hB rfl
 repeat refine c_r ?_
 refine rc trivial (hkn w1) ?_
 rintro _ w2 ⟨rfl, hE2⟩
 refine re trivial ?_
 repeat refine c_r ?_
 refine wf trivial ?_
 have dN2 := cellsO_ext hE2 dN
 have dS2 := cellsO_ext hE2 dS
 have hE12 := hE1.trans hE2
 repeat refine c_r ?_
 refine W_mono (Q := fun e σ' ds' v' => e = .normal ∧ ds' = [] ∧ σ' 2 = vi t ∧ σ' 3 = .pointer (some ⟨W.heap.size, 0, Option.none⟩) ∧ σ' 4 = .pointer (some ⟨W.heap.size + 1, 0, Option.none⟩) ∧ Ext w2 v' ∧ ∃ bb, σ' 20 = .bool bb ∧ (bb = false → GoodNet N ∧ GoodSt N s)) ?_ ?_
 ·refine rcg [(3, 15)] dN2 (Good16_ok w2 (hN0.ext hE12) hv) ?_
  rintro _ w3 ⟨hE3, b, rfl, hb⟩
  cases b with
  | false =>
   refine reg [(3, 15)] Bool.not_false ?_
   exact ⟨rfl, rfl, vq0, vq0, vq0, hE3, _, vr0, fun h => by cases h⟩
  | true =>
   refine rdg [(3, 15)] (an3 (cellsO_ext hE3 dN2) (cellsO_ext hE3 dS2) Bool.not_true) (good20_ok (hE12.trans hE3) hN0 (hs0.ext (hE12.trans hE3))) ?_
   rintro _ w4 ⟨rfl, hE4⟩
   refine reg [(3, 15)] trivial ?_
   exact ⟨rfl, rfl, vq0, vq0, vq0, hE3.trans hE4, _, vr0, fun h => ⟨hb rfl, goodS_iff.1 (by simpa using h)⟩⟩
 rintro _ σ1 _ w3 ⟨rfl, rfl, s2, s3, s4, hE3, bb, s20, hbb⟩
 have hE13 := hE12.trans hE3
 repeat refine c_r ?_
 cases bb with
 | true =>
  refine wt s20 ?_
  repeat (first | refine c_r ?_ | refine rg0 ?_)
  refine rt0 Tryz.ntmps9 ?_
  exact ⟨rfl, hE13⟩
 | false =>
 refine wf s20 ?_
 obtain ⟨gN, gS⟩ := hbb rfl
 clear hbb s20
 have dN3 := cellsO_ext hE3 dN2
 have dS3 := cellsO_ext hE3 dS2
 repeat refine c_r ?_
 refine rc (an5 s2 s3 s4 dN3 dS3) (Next_ok (t := t) hE13 hN0 gN.z (hs0.ext hE13) (gS.b gN)) ?_
 rintro lv w4 ⟨hE4, hrows⟩
 refine re trivial ?_
 obtain ⟨aL, cL, rfl, hcL, hgL⟩ := hrows.open
 obtain ⟨L, hL⟩ : ∃ L, nextS N s t = L := ⟨_, rfl⟩
 have hF : ∀ x ∈ L, s.fin = 0 ∧ NextF N s x := fun x hx => next_F gN gS (hL ▸ hx)
 have hLlen : L.length ≤ 2000000 := hL ▸ next_len gN.z (goodN_g gS.nm).m
 have hne : s.fin = 0 → L ≠ [] := fun h => hL ▸ next_ne gN gS h
 rw [hL] at hrows hcL ⊢
 simp only [hL] at hgL
 have hE14 := hE13.trans hE4
 have hA4 := Ext.at ((hE2.trans hE3).trans hE4) hA
 have hB4 := Ext.at ((hE2.trans hE3).trans hE4) hB
 have n2 : cellO w4 (some ⟨W.heap.size, 2, Option.none⟩) = some (vi N.rw) := cellO_at hA4 rfl
 have n3 : cellO w4 (some ⟨W.heap.size, 3, Option.none⟩) = some (vi N.rf) := cellO_at hA4 rfl
 have dN4 : cellsO w4 (some ⟨W.heap.size, 0, Option.none⟩) 4 = some [hsv, rv, vi N.rw, vi N.rf] := sv_cells hA4 rfl
 have a2 : cellO w4 (some ⟨W.heap.size + 1, 2, Option.none⟩) = some (vi s.rw) := cellO_at hB4 rfl
 have a3 : cellO w4 (some ⟨W.heap.size + 1, 3, Option.none⟩) = some (vi s.rf) := cellO_at hB4 rfl
 have a5 : cellO w4 (some ⟨W.heap.size + 1, 5, Option.none⟩) = some (vi s.fin) := cellO_at hB4 rfl
 have kw := gN.w
 have kf := gN.f
 have sw0 := gS.w0
 have sw1 := gS.w1
 have sf0 := gS.f0
 have sf1 := gS.f1
 repeat refine c_r ?_
 refine rg0 ?_
 repeat refine c_r ?_
 refine W_loop (fun m σ ds A => ds = [] ∧ ∃ (i : Nat), i + m = L.length ∧ σ 8 = vi i ∧ σ 7 = .slice aL L.length cL ∧ σ 3 = .pointer (some ⟨W.heap.size, 0, Option.none⟩) ∧ σ 4 = .pointer (some ⟨W.heap.size + 1, 0, Option.none⟩) ∧ Ext w4 A) L.length ?_ ?_
 ·exact ⟨rfl, 0, by omega, vr0, vq0, (vq1 s3), (vq1 s4), Keep.refl _ _⟩
 clear s2 s3 s4 dN2 dS2 dN3 dS3
 rintro m σ ds A ⟨rfl, i, him, s8, s7, s3, s4, hEA⟩
 repeat refine c_r ?_
 refine rg2 s8 s7 ?_
 repeat refine c_r ?_
 refine wc0 ?_ ?_
 ·intro hlt
  simp only [decide_eq_true_eq] at hlt
  have hi : i < L.length := by omega
  have hi0 : (0 : Int) ≤ (i : Int) := by omega
  have hi1' : (i : Int) + 1 = ((i + 1 : Nat) : Int) := by push_cast; rfl
  obtain ⟨cx, hcx, hX⟩ := hgL i hi
  obtain ⟨y, hye⟩ : ∃ y, L[i] = y := ⟨_, rfl⟩
  rw [hye] at hX
  obtain ⟨hfin, g, gw, gf, gm1, ggo⟩ := hF y (hye ▸ List.getElem_mem hi)
  obtain ⟨q0, q1, q2, q3, q4, q5, q6, q7, q8⟩ := id g
  have hX0 := hX
  obtain ⟨ny, rfl, hny⟩ := hX.ex
  obtain ⟨xL, rfl⟩ := Option.isSome_iff_exists.1 (cellsO_some hcx)
  obtain ⟨xi, hxi⟩ : ∃ xi, adr (some xL) (i * 6) = some xi := ⟨_, rfl⟩
  rw [hxi] at hcx
  obtain ⟨x2, hx2⟩ : ∃ u, adr (some xi) 2 = some u := ⟨_, rfl⟩
  obtain ⟨x3, hx3⟩ : ∃ u, adr (some xi) 3 = some u := ⟨_, rfl⟩
  obtain ⟨x5, hx5⟩ : ∃ u, adr (some xi) 5 = some u := ⟨_, rfl⟩
  have g2 : cellO w4 (some x2) = some (vi y.rw) := hx2 ▸ cell_of_cells hcx rfl
  have g3 : cellO w4 (some x3) = some (vi y.rf) := hx3 ▸ cell_of_cells hcx rfl
  have g5 : cellO w4 (some x5) = some (vi y.fin) := hx5 ▸ cell_of_cells hcx rfl
  have f1 : ¬ y.rw > N.rw := by omega
  have f2 : ¬ y.rf > N.rf := by omega
  repeat refine c_r ?_
  refine W_drw (fun _ => false) [(0, true), (1, true), (2, true), (3, true), (4, true), (5, true), (6, true), (7, true), (8, true), (9, true), (10, true), (11, true), (12, true), (13, true), (14, true), (15, true), (16, true), (17, true), (18, true), (19, true), (20, true), (21, true), (22, true), (23, true), (24, true), (25, true), (26, true), (27, true), (28, true), (29, false), (30, true), (31, true)] NoS mixed (by kernel_rfl) ?_; intro gd K x hgd hx hxe hK; clear hxe
  have hg3 : ∀ n σ b, wantV gd n σ (some (3, b)) = boolIs (ev n σ (.tmp 34)) b := (fun n σ b => by rw [wantV_some, show gd 3 = some 34 from (by rw [hgd]; rfl)]; rfl); have hg13 : ∀ n σ b, wantV gd n σ (some (13, b)) = boolIs (ev n σ (.tmp 44)) b := (fun n σ b => by rw [wantV_some, show gd 13 = some 44 from (by rw [hgd]; rfl)]; rfl); have hg23 : ∀ n σ b, wantV gd n σ (some (23, b)) = boolIs (ev n σ (.tmp 54)) b := (fun n σ b => by rw [wantV_some, show gd 23 = some 54 from (by rw [hgd]; rfl)]; rfl)
  have hAx := hEA.trans hx
  have a5x := cellO_ext hAx a5
  have n2x := cellO_ext hAx n2
  have n3x := cellO_ext hAx n3
  have g2x := cellO_ext hAx g2
  have g3x := cellO_ext hAx g3
  have dNx := cellsO_ext hAx dN4
  have dXx := cellsO_ext hAx hcx
  simp (disch := first | omega | assumption | rfl) only [↓reduceIte, go_sem, Nat.reduceLT, Nat.reduceEqDiff, Nat.reduceSub, s8, s7, s3, s4, a5x, n2x, n3x, g2x, g3x, dNx, dXx, Nat.zero_add, Nat.add_zero, hi0, hlt, hxi, hx2, hx3, decide_eq_true hfin, decide_eq_false f1, decide_eq_false f2, Bool.not_true, bi_un, ↓hg3, ↓hg13, ↓hg23]
  refine Fn.mono (good20_ok (hE14.trans hAx) hN0 (hX0.ext hAx)) ?_
  rintro _ z ⟨rfl, hz⟩
  refine ⟨.inr hz, ?_⟩
  rw [goodS_iff.2 g]
  simp (disch := first | omega | assumption | rfl) only [↓reduceIte, go_sem, Nat.reduceLT, Nat.reduceEqDiff, Nat.reduceSub, Bool.not_true, bi_un, ↓hg3, ↓hg13, ↓hg23]
  refine hK _ _ ?_; clear hK hgd; clear K; try clear gd
  have hAz := hAx.trans hz
  repeat refine c_r ?_
  refine wf trivial ?_
  have w1a : cellO z (some ⟨W.heap.size + 1, 2, Option.none⟩) = some (vi s.rw) := cellO_ext hAz a2
  have w2a := cellO_ext hAz a3
  have w3a := cellO_ext hAz g2
  have w4a := cellO_ext hAz g3
  repeat refine c_r ?_
  refine W_drw (fun _ => false) [(0, true), (1, true), (2, true), (3, true), (4, true), (5, true), (6, true), (7, true), (8, true), (9, true), (10, true), (11, true), (12, true), (13, true), (14, true), (15, true), (16, true), (17, true)] NoS mixed (by kernel_rfl) ?_; intro gd K x hgd hx hxe hK; clear hxe
  have v1a := cellO_ext hx w1a
  have v2a := cellO_ext hx w2a
  have v3a := cellO_ext hx w3a
  have v4a := cellO_ext hx w4a
  simp (disch := first | omega | assumption | rfl) only [↓reduceIte, go_sem, Nat.reduceLT, Nat.reduceEqDiff, Nat.reduceSub, s8, s7, s4, v1a, v2a, v3a, v4a, Nat.zero_add, hi0, hlt, hxi, hx2, hx3]
  refine hK _ _ ?_; clear hK hgd; clear K; try clear gd
  have hAx2 := hAz.trans hx
  obtain ⟨mo, hmo⟩ : ∃ mo, y.rw - s.rw + y.rf - s.rf = mo := ⟨_, rfl⟩
  rw [hmo] at gm1 ggo ⊢
  have m0 : ¬ mo < 0 := by omega
  have m1 : ¬ mo > 1 := by omega
  have m2 : ¬ y.rw < s.rw := by omega
  have m3 : ¬ y.rf < s.rf := by omega
  clear a5x n2x n3x g2x g3x dNx dXx w1a w2a w3a w4a v1a v2a v3a v4a hmo
  have c5 := cellO_ext hAx2 g5
  have c2 := cellO_ext hAx2 g2
  have c3 := cellO_ext hAx2 g3
  have b2 := cellO_ext hAx2 a2
  have b3 := cellO_ext hAx2 a3
  obtain ⟨Z, hZ⟩ : ∃ Z, x = Z := ⟨_, rfl⟩
  rw [hZ] at hAx2 c5 c2 c3 b2 b3 ⊢
  clear hZ hx x
  repeat refine c_r ?_
  refine W_mono (Q := fun e σ' ds' v' => e = .normal ∧ ds' = [] ∧ σ' 8 = vi i ∧ σ' 7 = .slice (some xL) L.length cL ∧ σ' 3 = .pointer (some ⟨W.heap.size, 0, Option.none⟩) ∧ σ' 4 = .pointer (some ⟨W.heap.size + 1, 0, Option.none⟩) ∧ Ext w4 v' ∧ σ' 117 = .bool false) ?_ ?_
  ·by_cases hy0 : y.fin = 0
   ·have hm := ggo hy0
    refine W_drw (fun _ => false) [(0, true), (1, true), (2, true), (3, true), (4, true), (5, true), (6, true), (7, true), (8, true), (9, true), (10, true), (11, true), (12, true), (13, true), (14, true), (15, true), (16, true), (17, true), (18, true), (19, true), (20, true), (21, true), (22, true), (23, true), (24, true), (25, true), (26, true), (27, true), (28, true), (29, true), (30, true), (31, true), (32, true), (33, true), (34, true), (35, true), (36, true), (37, true)] NoS mixed (by kernel_rfl) ?_; intro gd K x hgd hx hxe hK; clear hxe
    have hg6 : ∀ n σ b, wantV gd n σ (some (6, b)) = boolIs (ev n σ (.tmp 86)) b := (fun n σ b => by rw [wantV_some, show gd 6 = some 86 from (by rw [hgd]; rfl)]; rfl); have hg10 : ∀ n σ b, wantV gd n σ (some (10, b)) = boolIs (ev n σ (.tmp 90)) b := (fun n σ b => by rw [wantV_some, show gd 10 = some 90 from (by rw [hgd]; rfl)]; rfl); have hg14 : ∀ n σ b, wantV gd n σ (some (14, b)) = boolIs (ev n σ (.tmp 94)) b := (fun n σ b => by rw [wantV_some, show gd 14 = some 94 from (by rw [hgd]; rfl)]; rfl); have hg18 : ∀ n σ b, wantV gd n σ (some (18, b)) = boolIs (ev n σ (.tmp 98)) b := (fun n σ b => by rw [wantV_some, show gd 18 = some 98 from (by rw [hgd]; rfl)]; rfl); have hg28 : ∀ n σ b, wantV gd n σ (some (28, b)) = boolIs (ev n σ (.tmp 108)) b := (fun n σ b => by rw [wantV_some, show gd 28 = some 108 from (by rw [hgd]; rfl)]; rfl)
    have e5 := cellO_ext hx c5
    have e2 := cellO_ext hx c2
    have e3 := cellO_ext hx c3
    have d2 := cellO_ext hx b2
    have d3 := cellO_ext hx b3
    simp (disch := first | omega | assumption | rfl) only [↓reduceIte, go_sem, Nat.reduceLT, Nat.reduceEqDiff, Nat.reduceSub, s8, s7, s4, Nat.zero_add, hi0, hlt, hxi, hx2, hx3, hx5, e5, e2, e3, d2, d3, decide_eq_true hy0, decide_eq_true hm, decide_eq_false m0, decide_eq_false m1, decide_eq_false m2, decide_eq_false m3, Bool.not_true, bi_un, ↓hg6, ↓hg10, ↓hg14, ↓hg18, ↓hg28]
    refine hK _ _ ?_; clear hK hgd; clear K; try clear gd
    exact ⟨rfl, rfl, (vq1 s8), (vq1 s7), (vq1 s3), (vq1 s4), hAx2.trans hx, vr0⟩
   ·refine W_drw (fun _ => false) [(0, true), (1, true), (2, true), (3, true), (4, true), (5, true), (6, true), (7, true), (8, true), (9, true), (10, true), (11, true), (12, true), (13, true), (14, true), (15, true), (16, true), (17, true), (18, true), (19, true), (20, true), (21, true), (22, true), (23, true), (24, true), (25, true), (26, true), (27, true), (28, true), (29, true), (30, true), (31, true), (32, true), (33, true), (34, true), (35, true), (36, true), (37, true)] NoS mixed (by kernel_rfl) ?_; intro gd K x hgd hx hxe hK; clear hxe
    have hg6 : ∀ n σ b, wantV gd n σ (some (6, b)) = boolIs (ev n σ (.tmp 86)) b := (fun n σ b => by rw [wantV_some, show gd 6 = some 86 from (by rw [hgd]; rfl)]; rfl); have hg10 : ∀ n σ b, wantV gd n σ (some (10, b)) = boolIs (ev n σ (.tmp 90)) b := (fun n σ b => by rw [wantV_some, show gd 10 = some 90 from (by rw [hgd]; rfl)]; rfl); have hg14 : ∀ n σ b, wantV gd n σ (some (14, b)) = boolIs (ev n σ (.tmp 94)) b := (fun n σ b => by rw [wantV_some, show gd 14 = some 94 from (by rw [hgd]; rfl)]; rfl); have hg18 : ∀ n σ b, wantV gd n σ (some (18, b)) = boolIs (ev n σ (.tmp 98)) b := (fun n σ b => by rw [wantV_some, show gd 18 = some 98 from (by rw [hgd]; rfl)]; rfl); have hg28 : ∀ n σ b, wantV gd n σ (some (28, b)) = boolIs (ev n σ (.tmp 108)) b := (fun n σ b => by rw [wantV_some, show gd 28 = some 108 from (by rw [hgd]; rfl)]; rfl)
    have e5 := cellO_ext hx c5
    have e2 := cellO_ext hx c2
    have e3 := cellO_ext hx c3
    have d2 := cellO_ext hx b2
    have d3 := cellO_ext hx b3
    simp (disch := first | omega | assumption | rfl) only [↓reduceIte, go_sem, Nat.reduceLT, Nat.reduceEqDiff, Nat.reduceSub, s8, s7, s4, Nat.zero_add, hi0, hlt, hxi, hx2, hx3, hx5, e5, e2, e3, d2, d3, decide_eq_false hy0, decide_eq_false m0, decide_eq_false m1, decide_eq_false m2, decide_eq_false m3, Bool.not_true, bi_un, ↓hg6, ↓hg10, ↓hg14, ↓hg18, ↓hg28]
    refine hK _ _ ?_; clear hK hgd; clear K; try clear gd
    exact ⟨rfl, rfl, (vq1 s8), (vq1 s7), (vq1 s3), (vq1 s4), hAx2.trans hx, vr0⟩
  clear s8 s7 s3 s4
  rintro _ σ3 _ B ⟨rfl, rfl, s8, s7, s3, s4, hEB, s117⟩
  repeat refine c_r ?_
  refine wf s117 ?_
  repeat refine c_r ?_
  refine rg2 s8 hi1' ?_
  repeat refine c_r ?_
  exact ⟨m - 1, by omega, rfl, i + 1, by omega, vq0, (vq1 s7), (vq1 s3), (vq1 s4), hEB⟩
 ·intro hge
  simp only [decide_eq_false_iff_not] at hge
  have a5A := cellO_ext hEA a5
  repeat refine c_r ?_
  by_cases hfin : s.fin = 0
  ·have hlen : ¬ ((L.length : Int) = 0) := by
    have := List.length_pos_iff.2 (hne hfin)
    omega
   have hpos : (L.length : Int) > 0 := by omega
   refine rgg [(3, 121), (8, 126), (12, 130)] (an7 s4 a5A Nat.zero_add (decide_eq_true hfin) Bool.not_true s7 (decide_eq_true hpos)) ?_
   repeat refine c_r ?_
   refine rt0 Tryz.ntmps9 ?_
   exact ⟨rfl, hE14.trans hEA⟩
  ·have hlen : (L.length : Int) = 0 := by
    cases hLc : L with
    | nil => rfl
    | cons y l => exact absurd (hF y (hLc ▸ List.mem_cons_self ..)).1 hfin
   refine rgg [(3, 121), (8, 126), (12, 130)] (an7 s4 a5A Nat.zero_add (decide_eq_false hfin) Bool.not_false s7 (decide_eq_true hlen)) ?_
   repeat refine c_r ?_
   refine rt0 Tryz.ntmps9 ?_
   exact ⟨rfl, hE14.trans hEA⟩
end Go.Proofs.YtopbbjdembnfdaaGreat
namespace Go.Proofs.YtopbbjdembnfdaaGreat
open Go Go.ChangeShapes Go.WideShapes Go.ChangeAt Go.RowKit Go.WideElems
theorem Ext.below {w x : World} (h : Ext w x) : RowKit.Below w.heap.size w x := ⟨h.os, h.tape, h.output, h.size, fun k hk => h.block k hk (fun h => h)⟩
theorem Ext.kept {w x : World} (h : Ext w x) (may : MemPlace → Prop) : w.keptBut x may := by
 refine ⟨h.os, h.output, fun i hi => ?_⟩
 rw [h.block i hi (fun h => h)]
 cases hw : w.heap[i]? with
 | none => trivial
 | some o => cases o <;> simp
theorem trodAll_stays {H : Type} {enc : TypeId × Value → H} {P : Program} (hl : laidOutB P = true) {W W' : World} {sp : Nat → Bool} (hE : Ext W W') :
  ∀ {ts : List TypeId} {vs : List Value} {ds : List (DataW H)} {ps : List MemPlace}, (∀ t ∈ ts, P.readableRec t = true ∧ t < P.types.size) → DataW.TrodAll enc P W 0 (fun _ => true) true ts vs ds ps → (∀ x ∈ ps, x.block < W.heap.size) → (∀ x ∈ ps, sp x.block = true) →
   DataW.TrodAll enc P W' 0 sp true ts vs ds ps
 | [], _, _, _, _, h, _, _ => by
  obtain ⟨rfl, rfl, rfl⟩ := trodAll_nil h
  exact trodAll_mk0
 | _ :: _, _, _, _, ht, h, hlt, hs => by
  obtain ⟨v, vs1, d, ds1, a, b, rfl, rfl, rfl, h1, h2⟩ := trodAll_cons h
  obtain ⟨hr, hrow⟩ := ht _ (List.mem_cons_self ..)
  exact trodAll_cons_mk (WideElems.Trod_stays hl hr hrow h1 (fun x hx => hE.below.same (hlt x (List.mem_append_left _ hx))) (fun x hx => hs x (List.mem_append_left _ hx)))
   (trodAll_stays hl hE (fun t h => ht t (List.mem_cons_of_mem _ h)) h2 (fun x hx => hlt x (List.mem_append_right _ hx)) (fun x hx => hs x (List.mem_append_right _ hx)))
theorem frozen_ext {w x : World} (h : Ext w x) {b : Nat} (hb : b < w.heap.size) (o : Nat) : x.frozen? ⟨b, o, Option.none⟩ = w.frozen? ⟨b, o, Option.none⟩ := by
 unfold World.frozen?
 rw [h.block b hb (fun h => h)]
theorem law_post {H : Type} {enc : TypeId × Value → H} {P : Program} {f : Func} {s : ChangeSpec} {apart fresh handsOn again : Bool} {W W' : World} {args : Array Value} {ds gs : List (DataW H)} {before : List MemPlace}
  (hW : DataW.Whole enc P f.params.toList s.vars apart W args.toList ds gs before) (hvn : s.vars = []) (hspec : s.fn H ds = { results := [.lit (.bool true)], args := ds }) {tb : TypeId} (hrt : f.resultTypes = #[tb]) (htb : P.underlying tb = some .bool)
  (hl : laidOutB P = true) (hrd : ∀ t ∈ f.params.toList, P.readableRec t = true ∧ t < P.types.size) (hE : Ext W W') : s.post enc P f apart fresh handsOn again W args (.bool true) W' := by
 have hlt := hW.lt
 have hW0 := hW
 obtain ⟨p, q, hA, hV, hpq, hfz, hnd⟩ := hW
 have hq : gs = [] ∧ q = [] := by
  rw [hvn] at hV
  cases gs with
  | nil => exact ⟨rfl, hV⟩
  | cons _ _ => exact hV.elim
 obtain ⟨rfl, rfl⟩ := hq
 rw [List.append_nil] at hpq
 subst hpq
 have hres : ∀ (b : Nat) (sp : Nat → Bool) (hd : Bool), DataW.TrodAll enc P W' b sp hd f.resultTypes.toList ((Value.bool true).resultList f.resultTypes.size) (s.fn H (ds ++ [])).results [] := fun b sp hd => by
  rw [List.append_nil, hspec, hrt]
  exact trodAll_mk1 (shut_bool htb true)
 have hargs : ∀ sp : Nat → Bool, (∀ x ∈ before, sp x.block = true) → DataW.TrodAll enc P W' 0 sp true f.params.toList args.toList (s.fn H (ds ++ [])).args before := fun sp hs => by
  rw [List.append_nil, hspec]
  exact trodAll_stays hl hE hrd hA hlt hs
 have hvars : ∀ sp : Nat → Bool, DataW.TrodVars enc P W' sp s.vars (s.fn H (ds ++ [])).vars [] := fun sp => by
  rw [List.append_nil, hspec, hvn]; rfl
 have hold : ∀ x ∈ before, (fun b => decide (b < W.heap.size)) x.block = true := fun x hx => by simpa using hlt x hx
 refine ⟨ds, [], before, [], before, [], hW0, hres _ _ _, hargs _ hold, hvars _, hE.kept _, fun _ => ?_⟩
 refine ⟨fun j t r h1 h2 => ?_, _, _, ([] ++ before) ++ [], ⟨[] ++ before, [], trodAll_append (hargs _ (fun _ _ => rfl)) (hres _ _ _), hvars _, rfl, ?_, ?_⟩, ?_⟩
 ·rw [hrt] at h1 h2
  match j with
  | 0 =>
   simp at h1
   subst h1
   have : r = .bool true := by simpa [Value.resultList] using h2.symm
   subst this
   exact okWide_bool_mk htb true
  | j + 1 => simp at h1
 ·intro b off hp
  have hp' : MemPlace.cell b off ∈ before := by simpa using hp
  rw [frozen_ext hE (show b < W.heap.size from hlt _ hp')]
  exact hfz b off hp'
 ·intro ha
  simpa using hnd ha
 ·intro x hx _
  simpa using hx
theorem law_lift {C : Checked} {os : Os} {f : FuncId} {fn : Func} {s : ChangeSpec} {conds : List PathCond} {apart fresh handsOn again : Bool} {H : Type} {enc : TypeId × Value → H}
  (own : ownKnob C.prog.godebug = none) (started : os.Started) (noInit : C.prog.inits.idxOf? f = none) (hfn : C.prog.funcs[f]? = some fn)
  (witness : ∃ (w : World) (tape : Tape) (i : Input), w.os = os ∧ (w.forCall tape i).Shaped C.prog ∧ i.vars = [] ∧ Input.okWide C.prog (w.forCall tape i) .any w.heap.size f i ∧
   s.pre6 enc C.prog fn conds apart (w.forCall tape i).memory i.args ∧ ({} : Assume).holds C.prog (lone (Frame.enter C.prog f i.args .normal) [] (w.forCall tape i)))
  (hvn : s.vars = []) (hspec : ∀ ds : List (DataW H), ds.length = fn.params.size → s.fn H ds = { results := [.lit (.bool true)], args := ds }) {tb : TypeId} (hrt : fn.resultTypes = #[tb]) (htb : C.prog.underlying tb = some .bool)
  (hl : laidOutB C.prog = true) (hrd : fn.params.toList.all (fun t => C.prog.readableRec t && decide (t < C.prog.types.size)) = true)
  (walk : ∀ (W : World) (base : Nat) (args : List Value) (ds : List (DataW H)) (p : List MemPlace), (∀ (j : Nat) t v, fn.params[j]? = some t → args[j]? = some v → Value.okWide C.prog W .any base t v) →
   DataW.TrodAll enc C.prog W 0 (fun _ => true) true fn.params.toList args ds p → (∀ x ∈ DataW.weightsEach C.prog fn.params.toList ds, x ≤ reachBytes) → Fn C.prog f args.toArray W (fun v W' => v = .bool true ∧ Ext W W')) :
  ReturnsInHanded {} C os f .any (s.pre6 enc C.prog fn conds apart) (s.post enc C.prog fn apart fresh handsOn again) := by
 refine returnsInHanded_of_change_sized own started noInit hfn witness ?_
 intro W base args ds gs before hval hW _ hwt _
 have hW0 := hW
 obtain ⟨p, q, hA, hV, _⟩ := hW
 have hgs : gs = [] := by
  rw [hvn] at hV
  cases gs with
  | nil => rfl
  | cons _ _ => exact hV.elim
 subst hgs
 have hvt : s.plain.varTypes C.prog = [] := by
  unfold DataSpec.varTypes
  rw [show s.plain.vars = [] from hvn]; rfl
 rw [hvt, List.append_nil, List.append_nil] at hwt
 have hlen : ∀ {ts : List TypeId} {vs : List Value} {ds : List (DataW H)} {ps : List MemPlace}, DataW.TrodAll enc C.prog W 0 (fun _ => true) true ts vs ds ps → ds.length = ts.length := by
  intro ts
  induction ts with
  | nil => intro vs ds ps h; obtain ⟨rfl, rfl, rfl⟩ := trodAll_nil h; rfl
  | cons t ts ih =>
   intro vs ds ps h
   obtain ⟨v, vs1, d, ds1, a, b, rfl, rfl, rfl, h1, h2⟩ := trodAll_cons h
   simp [ih h2]
 have hw := walk W base args.toList ds p (fun j t v h1 h2 => hval j t v h1 (by simpa using h2)) hA (fun x hx => by simpa using (List.all_eq_true.1 hwt) x hx)
 rw [Array.toArray_toList] at hw
 refine Calls.mono (callsIn_wide.1 hw) ?_
 rintro e W' ⟨v, rfl, rfl, hE⟩
 refine ⟨_, rfl, law_post hW0 hvn (hspec ds (by rw [hlen hA]; simp)) hrt htb hl (fun t ht => ?_) hE⟩
 have := (List.all_eq_true.1 hrd) t ht
 simpa using this
/-! arguments -/
section
variable {H : Type} {enc : TypeId × Value → H} {P : Program} {w : World} {base : Nat} {sp : Nat → Bool} {held : Bool}
def Rd (enc : TypeId × Value → H) (P : Program) (w : World) (base : Nat) (sp : Nat → Bool) (held : Bool) (t : TypeId) (v : Value) : Prop := ∃ n x, DataW.trod enc P w base sp held n t [v] = some x ∧ ∀ k ∈ x.1.weights P t, k ≤ reachBytes
theorem weightsAll_in {e : TypeId} {d : DataW H} {k : Nat} : ∀ {l : List (DataW H)}, d ∈ l → k ∈ d.weights P e → k ∈ DataW.weightsAll P e l
 | a :: l, hd, hk => by
  simp only [DataW.weightsAll, List.mem_append]
  rcases List.mem_cons.1 hd with rfl | hd
  ·exact .inl hk
  ·exact .inr (weightsAll_in hd hk)
theorem rd_slice {t e : TypeId} {v : Value} (h : Rd enc P w base sp held t v) (ht : P.underlying t = some (.slice e)) (hc : P.cellsOf e = 1) :
  ∃ vals, Row w v vals ∧ (∀ u ∈ vals, Rd enc P w base sp held e u) ∧ vals.length * P.bytesOf e ≤ reachBytes := by
 obtain ⟨n, x, h, hw⟩ := h
 rcases Go.Deep.open_slice1 ht hc h with ⟨h1, _⟩ | ⟨a, len, cap, m, k, V, D, Pl, h1, _, hl, hm, hmm, rfl, hx⟩
 ·simp only [List.cons.injEq, and_true] at h1
  subst h1
  exact ⟨[], ⟨Option.none, 0, rfl, Nat.le_refl _, fun j h => by simp at h⟩, fun u h => (by cases h), by simp⟩
 ·simp only [List.cons.injEq, and_true] at h1
  subst h1
  have hml : len ≤ m := by rw [hmm]; split <;> omega
  simp only [DataW.weights, ht] at hw
  refine ⟨(List.range len).map V, ⟨some a, cap, by simp, by simpa using hl, fun j hj => ?_⟩, fun u hu => ?_, ?_⟩
  ·simp at hj
   have := (hx j (by omega)).1
   simpa [cellO, adr] using this
  ·obtain ⟨j, hj, rfl⟩ := List.mem_map.1 hu
   simp at hj
   refine ⟨_, _, (hx j (by omega)).2, fun q hq => hw q (List.mem_cons_of_mem _ (List.mem_append_left _ (weightsAll_in (d := D j) ?_ hq)))⟩
   exact List.mem_map.2 ⟨j, by simpa using hj, rfl⟩
  ·have h1 := hw _ (List.mem_cons_self ..)
   have h2 : ((List.range len).map V).length * P.bytesOf e ≤ (((List.range len).map D).length + ((List.range (m - len)).map fun j => D (len + j)).length) * P.bytesOf e := Nat.mul_le_mul (by simp) (Nat.le_refl _)
   omega
theorem rd_string {t : TypeId} {v : Value} (h : Rd enc P w base sp held t v) (ht : P.underlying t = some .string) : ∃ s : List UInt8, v = vs s ∧ s.length ≤ reachBytes := by
 obtain ⟨n, x, h, hw⟩ := h
 cases n with
 | zero => cases h
 | succ n =>
  unfold DataW.trod at h
  rw [ht] at h
  cases v <;> simp at h
  rename_i s
  obtain ⟨_, rfl⟩ := h
  exact ⟨s.data.toList, by simp [vs], by simpa [DataW.weights, ByteArray.toList_eq] using hw⟩
theorem list_of {α β : Type} {f : α → β} {Q : α → Prop} : ∀ {l : List β}, (∀ u ∈ l, ∃ s, u = f s ∧ Q s) → ∃ m : List α, l = m.map f ∧ ∀ s ∈ m, Q s
 | [], _ => ⟨[], rfl, fun s h => by cases h⟩
 | b :: l, h => by
  obtain ⟨s, rfl, hq⟩ := h b (List.mem_cons_self ..)
  obtain ⟨m, rfl, hm⟩ := list_of (fun u hu => h u (List.mem_cons_of_mem _ hu))
  refine ⟨s :: m, rfl, fun x hx => ?_⟩
  rcases List.mem_cons.1 hx with rfl | hx
  ·exact hq
  ·exact hm x hx
end
end Go.Proofs.YtopbbjdembnfdaaGreat
namespace Go.Proofs.YtopbbjdembnfdaaGreat
open Go
section
variable {H : Type} {enc : TypeId × Value → H} {P : Program} {w : World} {base : Nat} {sp : Nat → Bool} {held : Bool}
structure NmOk (n : Nm) : Prop where
 lb : LB n
 len : n.length ≤ 100000000000000
theorem reach_lt : reachBytes < 140737488355328 := by decide
theorem rd_name {t e : TypeId} {v : Value} (h : Rd enc P w base sp held t v) (ht : P.underlying t = some (.slice e)) (hc : P.cellsOf e = 1) (he : P.underlying e = some .string) (hb : P.bytesOf e = 16) : ∃ n : Nm, Row w v (n.map vs) ∧ NmOk n := by
 obtain ⟨vals, hr, hall, hl⟩ := rd_slice h ht hc
 obtain ⟨m, rfl, hm⟩ := list_of (f := vs) (fun u hu => rd_string (hall u hu) he)
 have := reach_lt
 rw [hb] at hl
 exact ⟨m, hr, fun l hl => by have := hm l hl; omega, by simp at hl; omega⟩
theorem rd_names {t ts tb : TypeId} {v : Value} (h : Rd enc P w base sp held t v) (ht : P.underlying t = some (.slice ts)) (hc : P.cellsOf ts = 1) (ht2 : P.underlying ts = some (.slice tb)) (hc2 : P.cellsOf tb = 1) (he : P.underlying tb = some .string) (hb : P.bytesOf tb = 16) :
  ∃ L : List Nm, NamesAt w v L ∧ ∀ n ∈ L, NmOk n := by
 obtain ⟨vals, hr, hall, hlen0⟩ := rd_slice h ht hc
 have : ∃ L : List Nm, (vals.length = L.length ∧ ∀ i (h : i < vals.length) (h' : i < L.length), Row w vals[i] (L[i].map vs)) ∧ ∀ n ∈ L, NmOk n := by
  clear hr h hlen0
  induction vals with
  | nil => exact ⟨[], ⟨rfl, fun i h => by simp at h⟩, fun n h => by cases h⟩
  | cons u vals ih =>
   obtain ⟨n, hn, hok⟩ := rd_name (hall u (List.mem_cons_self ..)) ht2 hc2 he hb
   obtain ⟨L, ⟨h1, h2⟩, h3⟩ := ih (fun x hx => hall x (List.mem_cons_of_mem _ hx))
   refine ⟨n :: L, ⟨by simp [h1], fun i a b => ?_⟩, fun x hx => ?_⟩
   ·cases i with
    | zero => exact hn
    | succ i => exact h2 i (by simpa using a) (by simpa using b)
   ·rcases List.mem_cons.1 hx with rfl | hx
    ·exact hok
    ·exact h3 x hx
 obtain ⟨L, ⟨h1, h2⟩, h3⟩ := this
 exact ⟨L, ⟨vals, hr, h1, h2⟩, h3⟩
end
end Go.Proofs.YtopbbjdembnfdaaGreat
