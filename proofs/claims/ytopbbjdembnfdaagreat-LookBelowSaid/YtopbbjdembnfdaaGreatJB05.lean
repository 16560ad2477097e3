/-
  Texts of a proof, joined: SS5rec, M4rec, SS6rec, D4, D6, D7, D8, Y0, K18, M5cd, E0, E1, K22, E2.
  Conditions: none.
-/
import Derived.Test.YtopbbjdembnfdaaGreatJB04
import Derived.Test.YtopbbjdembnfdaaGreatJB02
import Derived.Test.YtopbbjdembnfdaaGreatJB03
import Derived.Test.YtopbbjdembnfdaaGreatJB01
set_option linter.unusedVariables false
set_option linter.unusedSimpArgs false
set_option linter.defProp false
set_option linter.unnecessarySimpa false
namespace Go.Proofs.YtopbbjdembnfdaaGreat.S_rec
open Go Go.Proofs.YtopbbjdembnfdaaGreat
set_option maxRecDepth 10000

section
variable {α : Type} {enc : α → List Value}

theorem stable_ok {w0 w : World} {b cap : Nat} {U : α → Prop} {cf : α → α → Int} {lt older : α → α → Prop} {g : FuncId} {cb : List Value} (hc : Cmp w0 enc U cf g cb) (ho : Older cf lt older) (hb : w0.heap.size ≤ b)
  {D : List α} {N : Nat} (hN : D.length = N) (hU : ∀ x ∈ D, U x) (hOD : D.Pairwise older) (hD : Lies enc w b cap D) (hlen : N ≤ 100000000000) (hE : Ext w0 w) :
  Fn Tryz.prog 213 #[dataV b N cap, vi N, cmpV g cb] w (fun _ w' => (∃ Z, Z.Perm D ∧ Z.Pairwise lt ∧ Lies enc w' b cap Z) ∧ Keep (fun i => i = b) w w') := by
 unfold dataV cmpV
 refine enter Tryz.func213 Tryz.ntmps213 rfl rfl ?_
 repeat refine c_r ?_
 refine rg0 ?_
 repeat refine c_r ?_
 refine rg0 ?_
 repeat refine c_r ?_
 refine W_loop (fun m σ ds v => ds = [] ∧ ∃ (P : List (List α)) (R : List α), R.length = m ∧ (∀ L ∈ P, L.length = 20) ∧ (∀ L ∈ P, L.Pairwise lt) ∧ OldC older (P ++ [R]) ∧ R.Pairwise older ∧ (P.flatten ++ R).Perm D ∧ σ 6 = vi 20 ∧ σ 7 = vi P.flatten.length ∧ σ 8 = vi (P.flatten.length + 20 : Nat) ∧ σ 0 = .slice (some ⟨b, 0, Option.none⟩) N cap ∧ σ 1 = vi N ∧ σ 2 = .func (.func g) #[] cb.toArray ∧
  Lies enc v b cap (P.flatten ++ R) ∧ Keep (fun i => i = b) w v) D.length ?_ ?_
 ·refine ⟨rfl, [], D, rfl, fun L h => (by cases h), fun L h => (by cases h), List.pairwise_singleton _ _, hOD, List.Perm.refl _, vq0, ?_, ?_, vq0, vq0, vq0, hD, Keep.refl _ _⟩
  ·simp only [↓reduceIte, go_sem, Nat.reduceLT, Nat.reduceEqDiff, Nat.reduceSub]; rfl
  ·simp only [↓reduceIte, go_sem, Nat.reduceLT, Nat.reduceEqDiff, Nat.reduceSub]; rfl
 rintro m σ ds v ⟨rfl, P, R, hm, hP20, hPs, hOC, hRo, hperm, h6, h7, h8, h0, h1, h2, hL, hK⟩
 have hE0 : Ext w0 v := Keep.to_ext hE rfl (fun i hi => by omega) hK
 have hl := hperm.length_eq
 rw [List.length_append, hN] at hl
 have hUR : ∀ x ∈ R, U x := fun x hx => hU x (hperm.mem_iff.1 (List.mem_append_right _ hx))
 repeat refine c_r ?_
 refine rg2 h8 h1 ?_
 repeat refine c_r ?_
 refine wc0 ?_ ?_
 ·intro hle
  simp only [decide_eq_true_eq] at hle
  have hR20 : 20 ≤ R.length := by omega
  obtain ⟨X, hX⟩ : ∃ X, R.take 20 = X := ⟨_, rfl⟩
  obtain ⟨R', hR'⟩ : ∃ R', R.drop 20 = R' := ⟨_, rfl⟩
  have hXR : X ++ R' = R := by rw [← hX, ← hR']; exact List.take_append_drop _ _
  have hXl : X.length = 20 := by rw [← hX]; simp; omega
  rw [← hXR] at hRo hOC
  have hOC2 := hOC.split hRo
  rw [List.pairwise_append] at hRo
  repeat refine c_r ?_
  refine rq ?_; intro gd K hgd hK
  try simp (disch := first | omega | assumption | rfl) only [↓reduceIte, go_sem, Nat.reduceLT, Nat.reduceEqDiff, Nat.reduceSub, h0, h7, h8, h2]
  refine Fn.mono (insertionSort_ok hc ho (D := P.flatten ++ R) (A := P.flatten) (X := X) (B := R') (p := P.flatten.length) (q := P.flatten.length + 20) (N := N) (by rw [← hXR, List.append_assoc]) (by rw [List.length_append]; omega) rfl (by omega) (fun x hx => hUR x (by rw [← hXR]; exact List.mem_append_left _ hx)) hRo.1 hL (by omega) hE0 hb) ?_
  rintro _ w1 ⟨⟨Z, z1, z2, z3⟩, hK1⟩
  try simp (disch := first | omega | assumption | rfl) only [↓reduceIte, go_sem, Nat.reduceLT, Nat.reduceEqDiff, Nat.reduceSub]
  refine hK _ _ ?_; clear hK hgd; clear K; try clear gd
  have hzl := z1.length_eq
  have hfl : (P ++ [Z]).flatten.length = P.flatten.length + 20 := by simp; omega
  repeat refine c_r ?_
  refine rg1 h8 ?_
  repeat refine c_r ?_
  refine rg2 h8 h6 ?_
  repeat refine c_r ?_
  refine ⟨R'.length, by rw [← hR']; simp; omega, rfl, P ++ [Z], R', rfl, fun L hL => ?_, fun L hL => ?_, ?_, hRo.2.1, ?_, (vq1 h6), (vq1 hfl), by simp only [↓reduceIte, go_sem, Nat.reduceLT, Nat.reduceEqDiff, Nat.reduceSub, hfl]; push_cast; rfl, (vq1 h0), (vq1 h1), (vq1 h2), ?_, hK.trans hK1⟩
  ·rcases List.mem_append.1 hL with hL | hL
   ·exact hP20 L hL
   ·rw [List.mem_singleton.1 hL]; omega
  ·rcases List.mem_append.1 hL with hL | hL
   ·exact hPs L hL
   ·rw [List.mem_singleton.1 hL]; exact z2
  ·have := hOC2.perm z1
   rw [List.append_assoc]; exact this
  ·refine List.Perm.trans ?_ hperm
   rw [← hXR]
   have : (P ++ [Z]).flatten ++ R' = P.flatten ++ (Z ++ R') := by simp
   rw [this]
   exact List.Perm.append_left _ (List.Perm.append_right _ z1)
  ·have : (P ++ [Z]).flatten ++ R' = P.flatten ++ Z ++ R' := by simp
   rw [this]; exact z3
 intro hgt
 simp only [decide_eq_false_iff_not] at hgt
 have hR20 : R.length < 20 := by omega
 repeat refine c_r ?_
 refine rq ?_; intro gd K hgd hK
 try simp (disch := first | omega | assumption | rfl) only [↓reduceIte, go_sem, Nat.reduceLT, Nat.reduceEqDiff, Nat.reduceSub, h0, h7, h1, h2]
 refine Fn.mono (insertionSort_ok hc ho (D := P.flatten ++ R) (A := P.flatten) (X := R) (B := []) (p := P.flatten.length) (q := N) (N := N) (by simp) (by rw [List.length_append]; omega) rfl (by omega) hUR hRo hL (by omega) hE0 hb) ?_
 rintro _ w1 ⟨⟨Z, z1, z2, z3⟩, hK1⟩
 try simp (disch := first | omega | assumption | rfl) only [↓reduceIte, go_sem, Nat.reduceLT, Nat.reduceEqDiff, Nat.reduceSub]
 refine hK _ _ ?_; clear hK hgd; clear K; try clear gd
 have hE1 : Ext w0 w1 := Keep.to_ext hE0 rfl (fun i hi => by omega) hK1
 have hzl := z1.length_eq
 repeat refine c_r ?_
 refine W_loop (fun m σ ds v => ds = [] ∧ ∃ (s : Nat) (Ls : List (List α)), N - s = m ∧ 0 < s ∧ Rem s Ls ∧ (∀ L ∈ Ls, L.Pairwise lt) ∧ OldC older Ls ∧ Ls.flatten.Perm D ∧ σ 6 = vi s ∧ σ 0 = .slice (some ⟨b, 0, Option.none⟩) N cap ∧ σ 1 = vi N ∧ σ 2 = .func (.func g) #[] cb.toArray ∧
  Lies enc v b cap Ls.flatten ∧ Keep (fun i => i = b) w v) (N - 20) ?_ ?_
 ·refine ⟨rfl, 20, P ++ [Z], rfl, by omega, rem_snoc (by omega) hP20, fun L hL => ?_, hOC.perm z1, ?_, by simp only [↓reduceIte, go_sem, Nat.reduceLT, Nat.reduceEqDiff, Nat.reduceSub, h6]; rfl, (vq1 h0), (vq1 h1), (vq1 h2), ?_, hK.trans hK1⟩
  ·rcases List.mem_append.1 hL with hL | hL
   ·exact hPs L hL
   ·rw [List.mem_singleton.1 hL]; exact z2
  ·refine List.Perm.trans ?_ hperm
   have : (P ++ [Z]).flatten = P.flatten ++ Z := by simp
   rw [this]; exact List.Perm.append_left _ z1
  ·have : (P ++ [Z]).flatten = P.flatten ++ Z ++ [] := by simp
   rw [this]; exact z3
 clear h6 h7 h8 h0 h1 h2 hL hOC hperm hl z3
 rintro m1 σ ds v1 ⟨rfl, s, Ls, hms, hs0, hrem, hsorted, hOC, hperm, h6, h0, h1, h2, hL, hK2⟩
 have hE2 : Ext w0 v1 := Keep.to_ext hE rfl (fun i hi => by omega) hK2
 have hl := hperm.length_eq
 rw [hN] at hl
 repeat refine c_r ?_
 refine rg2 h6 h1 ?_
 repeat refine c_r ?_
 refine wc0 ?_ ?_
 ·intro hlt
  simp only [decide_eq_true_eq] at hlt
  have h2s : (2 : Int) * s = ((2 * s : Nat) : Int) := by push_cast; rfl
  repeat refine c_r ?_
  refine rg2 h6 h2s ?_
  repeat refine c_r ?_
  refine W_loop (fun m σ ds v => ds = [] ∧ ∃ (Q Rs : List (List α)), Rs.flatten.length = m ∧ (∀ L ∈ Q, L.length = 2 * s) ∧ Rem s Rs ∧ (∀ L ∈ Q ++ Rs, L.Pairwise lt) ∧ OldC older (Q ++ Rs) ∧ (Q ++ Rs).flatten.Perm D ∧ σ 6 = vi s ∧ σ 7 = vi Q.flatten.length ∧ σ 8 = vi (Q.flatten.length + 2 * s : Nat) ∧ σ 0 = .slice (some ⟨b, 0, Option.none⟩) N cap ∧ σ 1 = vi N ∧ σ 2 = .func (.func g) #[] cb.toArray ∧
   Lies enc v b cap (Q ++ Rs).flatten ∧ Keep (fun i => i = b) w v) N ?_ ?_
  ·refine ⟨rfl, [], Ls, hl, fun L h => (by cases h), hrem, hsorted, hOC, hperm, (vq1 h6), ?_, ?_, (vq1 h0), (vq1 h1), (vq1 h2), hL, hK2⟩
   ·simp only [↓reduceIte, go_sem, Nat.reduceLT, Nat.reduceEqDiff, Nat.reduceSub]; rfl
   ·simp only [↓reduceIte, go_sem, Nat.reduceLT, Nat.reduceEqDiff, Nat.reduceSub]; push_cast; simp
  clear h6 h0 h1 h2 hL hrem hsorted hOC hperm
  rintro m2 σ ds v2 ⟨rfl, Q, Rs, hm2, hQl, hrem, hsorted, hOC, hperm, h6, h7, h8, h0, h1, h2, hL, hK3⟩
  have hE3 : Ext w0 v2 := Keep.to_ext hE rfl (fun i hi => by omega) hK3
  have hl3 := hperm.length_eq
  rw [hN, List.flatten_append, List.length_append] at hl3
  have hUQ : ∀ L ∈ Q ++ Rs, ∀ x ∈ L, U x := fun L hL x hx => hU x (hperm.mem_iff.1 (List.mem_flatten.2 ⟨L, hL, hx⟩))
  repeat refine c_r ?_
  refine rg2 h8 h1 ?_
  repeat refine c_r ?_
  refine wc0 ?_ ?_
  ·intro hle
   simp only [decide_eq_true_eq] at hle
   obtain ⟨L1, L2, Rs', rfl, l1, l2, hrem'⟩ := rem_two hs0 hrem (by omega)
   have has : (Q.flatten.length : Int) + s = ((Q.flatten.length + s : Nat) : Int) := by push_cast; rfl
   have n1 : L1 ≠ [] := List.length_pos_iff.1 (by omega)
   have n2 : L2 ≠ [] := List.length_pos_iff.1 (by omega)
   have hold12 := (hOC.merge (List.Perm.refl (L1 ++ L2))).2
   repeat refine c_r ?_
   refine rq ?_; intro gd K hgd hK
   try simp (disch := first | omega | assumption | rfl) only [↓reduceIte, go_sem, Nat.reduceLT, Nat.reduceEqDiff, Nat.reduceSub, h0, h7, h6, h8, h2, has]
   refine Fn.mono (symMerge_ok hc ho hb (L1.length + L2.length) v2 (Q ++ L1 :: L2 :: Rs').flatten Q.flatten L1 L2 Rs'.flatten Q.flatten.length (Q.flatten.length + s) (Q.flatten.length + 2 * s) N (Nat.le_refl _) (by simp) (by rw [List.flatten_append, List.length_append]; exact hl3) rfl (by omega) (by omega) n1 n2
    (hUQ L1 (by simp)) (hUQ L2 (by simp)) (hsorted L1 (by simp)) (hsorted L2 (by simp)) hold12 hL (by omega) hE3) ?_
   rintro _ w2 ⟨⟨Z, z1, z2, z3⟩, hK4⟩
   try simp (disch := first | omega | assumption | rfl) only [↓reduceIte, go_sem, Nat.reduceLT, Nat.reduceEqDiff, Nat.reduceSub]
   refine hK _ _ ?_; clear hK hgd; clear K; try clear gd
   have hzl2 := z1.length_eq
   rw [List.length_append] at hzl2
   have hfl : (Q ++ [Z]).flatten.length = Q.flatten.length + 2 * s := by simp; omega
   repeat refine c_r ?_
   refine rg1 h8 ?_
   repeat refine c_r ?_
   refine rg3 h8 h6 h2s ?_
   repeat refine c_r ?_
   have hfr : (L1 :: L2 :: Rs').flatten.length = s + (s + Rs'.flatten.length) := by simp only [List.flatten_cons, List.length_append]; omega
   refine ⟨Rs'.flatten.length, by omega, rfl, Q ++ [Z], Rs', rfl, fun L hL => ?_, hrem', fun L hL => ?_, ?_, ?_, (vq1 h6), (vq1 hfl), by simp only [↓reduceIte, go_sem, Nat.reduceLT, Nat.reduceEqDiff, Nat.reduceSub, hfl]; push_cast; rfl, (vq1 h0), (vq1 h1), (vq1 h2), ?_, hK3.trans hK4⟩
   ·rcases List.mem_append.1 hL with hL | hL
    ·exact hQl L hL
    ·rw [List.mem_singleton.1 hL]; omega
   ·rcases List.mem_append.1 hL with hL | hL
    ·rcases List.mem_append.1 hL with hL | hL
     ·exact hsorted L (by simp [hL])
     ·rw [List.mem_singleton.1 hL]; exact z2
    ·exact hsorted L (by simp [hL])
   ·have := (hOC.merge z1).1
    rw [List.append_assoc]; exact this
   ·refine List.Perm.trans ?_ hperm
    have e1 : (Q ++ [Z] ++ Rs').flatten = Q.flatten ++ (Z ++ Rs'.flatten) := by simp
    have e2 : (Q ++ L1 :: L2 :: Rs').flatten = Q.flatten ++ ((L1 ++ L2) ++ Rs'.flatten) := by simp
    rw [e1, e2]
    exact List.Perm.append_left _ (List.Perm.append_right _ z1)
   ·have e1 : (Q ++ [Z] ++ Rs').flatten = Q.flatten ++ Z ++ Rs'.flatten := by simp
    rw [e1]; exact z3
  intro hgt2
  simp only [decide_eq_false_iff_not] at hgt2
  have has : (Q.flatten.length : Int) + s = ((Q.flatten.length + s : Nat) : Int) := by push_cast; rfl
  repeat refine c_r ?_
  refine rg3 h7 h6 has ?_
  repeat refine c_r ?_
  refine rg1 h1 ?_
  repeat refine c_r ?_
  refine W_mono (Q := fun e σ' ds' v' => e = .normal ∧ ds' = [] ∧ σ' 6 = vi s ∧ σ' 0 = .slice (some ⟨b, 0, Option.none⟩) N cap ∧ σ' 1 = vi N ∧ σ' 2 = .func (.func g) #[] cb.toArray ∧
   ∃ Z, Z.Perm Rs.flatten ∧ Z.Pairwise lt ∧ Lies enc v' b cap (Q ++ [Z]).flatten ∧ Keep (fun i => i = b) w v') ?_ ?_
  ·refine wc0 ?_ ?_
   ·intro hlt2
    simp only [decide_eq_true_eq] at hlt2
    obtain ⟨L1, L2, rfl, l1, n2⟩ := rem_one hrem (by omega) (by omega)
    have n1 : L1 ≠ [] := List.length_pos_iff.1 (by omega)
    have hold12 := (hOC.merge (List.Perm.refl (L1 ++ L2))).2
    have hfr : [L1, L2].flatten.length = s + L2.length := by simp; omega
    repeat refine c_r ?_
    refine rq ?_; intro gd K hgd hK
    try simp (disch := first | omega | assumption | rfl) only [↓reduceIte, go_sem, Nat.reduceLT, Nat.reduceEqDiff, Nat.reduceSub, h0, h7, h1, h2]
    refine Fn.mono (symMerge_ok hc ho hb (L1.length + L2.length) v2 (Q ++ [L1, L2]).flatten Q.flatten L1 L2 [] Q.flatten.length (Q.flatten.length + s) N N (Nat.le_refl _) (by simp) (by rw [List.flatten_append, List.length_append]; exact hl3) rfl (by omega) (by omega) n1 n2
     (hUQ L1 (by simp)) (hUQ L2 (by simp)) (hsorted L1 (by simp)) (hsorted L2 (by simp)) hold12 hL (by omega) hE3) ?_
    rintro _ w2 ⟨⟨Z, z1, z2, z3⟩, hK4⟩
    try simp (disch := first | omega | assumption | rfl) only [↓reduceIte, go_sem, Nat.reduceLT, Nat.reduceEqDiff, Nat.reduceSub]
    refine hK _ _ ?_; clear hK hgd; clear K; try clear gd
    refine ⟨rfl, rfl, (vq1 h6), (vq1 h0), (vq1 h1), (vq1 h2), Z, by simpa using z1, z2, ?_, hK3.trans hK4⟩
    have e1 : (Q ++ [Z]).flatten = Q.flatten ++ Z ++ [] := by simp
    rw [e1]; exact z3
   ·intro hge2
    simp only [decide_eq_false_iff_not] at hge2
    repeat refine c_r ?_
    refine ⟨rfl, rfl, (vq1 h6), (vq1 h0), (vq1 h1), (vq1 h2), Rs.flatten, List.Perm.refl _, rem_small hrem (fun L hL => hsorted L (by simp [hL])) (by omega), ?_, hK3⟩
    have e1 : (Q ++ [Rs.flatten]).flatten = (Q ++ Rs).flatten := by simp
    rw [e1]; exact hL
  clear h6 h7 h8 h0 h1 h2 hL
  rintro _ σ3 _ v3 ⟨rfl, rfl, h6, h0, h1, h2, Z, zp, zs, hL, hK5⟩
  have hzl3 := zp.length_eq
  have hs2 : (s : Int) * 2 = ((2 * s : Nat) : Int) := by push_cast; omega
  repeat refine c_r ?_
  refine rg2 h6 hs2 ?_
  repeat refine c_r ?_
  refine ⟨N - 2 * s, by omega, rfl, 2 * s, Q ++ [Z], rfl, by omega, rem_snoc (by omega) hQl, fun L hL => ?_, hOC.join.perm zp, ?_, vq0, (vq1 h0), (vq1 h1), (vq1 h2), hL, hK5⟩
  ·rcases List.mem_append.1 hL with hL | hL
   ·exact hsorted L (by simp [hL])
   ·rw [List.mem_singleton.1 hL]; exact zs
  ·refine List.Perm.trans ?_ hperm
   have e1 : (Q ++ [Z]).flatten = Q.flatten ++ Z := by simp
   rw [e1, List.flatten_append]
   exact List.Perm.append_left _ zp
 intro hge
 simp only [decide_eq_false_iff_not] at hge
 repeat refine c_r ?_
 exact ret_none (by simp) rfl ⟨⟨Ls.flatten, hperm, rem_small hrem hsorted (by omega), hL⟩, hK2⟩

theorem SortStable_ok {w0 w : World} {b cap : Nat} {U : α → Prop} {cf : α → α → Int} {lt older : α → α → Prop} {g : FuncId} {cb : List Value} (hc : Cmp w0 enc U cf g cb) (ho : Older cf lt older) (hb : w0.heap.size ≤ b)
  {D : List α} {N : Nat} (hN : D.length = N) (hU : ∀ x ∈ D, U x) (hOD : D.Pairwise older) (hD : Lies enc w b cap D) (hlen : N ≤ 100000000000) (hE : Ext w0 w) :
  Fn Tryz.prog 182 #[dataV b N cap, cmpV g cb] w (fun _ w' => (∃ Z, Z.Perm D ∧ Z.Pairwise lt ∧ Lies enc w' b cap Z) ∧ Keep (fun i => i = b) w w') := by
 have h := stable_ok (w := w) hc ho hb hN hU hOD hD hlen hE
 unfold dataV at h ⊢
 refine enter Tryz.func182 Tryz.ntmps182 rfl rfl ?_
 repeat refine c_r ?_
 refine rq ?_; intro gd K hgd hK
 try simp (disch := first | omega | assumption | rfl) only [↓reduceIte, go_sem, Nat.reduceLT, Nat.reduceEqDiff, Nat.reduceSub]
 refine Fn.mono h ?_
 rintro _ w1 hr
 try simp (disch := first | omega | assumption | rfl) only [↓reduceIte, go_sem, Nat.reduceLT, Nat.reduceEqDiff, Nat.reduceSub]
 refine hK _ _ ?_; clear hK hgd; clear K; try clear gd
 repeat refine c_r ?_
 exact ret_none (by simp) rfl hr
end
end Go.Proofs.YtopbbjdembnfdaaGreat.S_rec

namespace Go.Proofs.YtopbbjdembnfdaaGreat.S_rec
open Go Go.Proofs.YtopbbjdembnfdaaGreat
set_option maxRecDepth 10000

theorem Clip_ok {w : World} {v : Value} {L : List (List Value)} (hr : RowK 7 w v L) : Fn Tryz.prog 183 #[v] w (fun u w' => RowK 7 w' u L ∧ w' = w) := by
 obtain ⟨a, c, rfl, hc, hl⟩ := hr
 refine enter Tryz.func183 Tryz.ntmps183 rfl rfl ?_
 repeat refine c_r ?_
 refine rg0 ?_
 repeat refine c_r ?_
 refine rq ?_; intro gd K hgd hK
 try simp (disch := first | omega | assumption | rfl) only [↓reduceIte, go_sem, Nat.reduceLT, Nat.reduceEqDiff, Nat.reduceSub]
 have hcl : slD Tryz.prog (some (TypeDesc.slice 110)) (Value.slice a L.length c) Option.none (some (Value.int IntKind.i64 ↑L.length)) (some (Value.int IntKind.i64 ↑L.length)) = some (.slice a L.length L.length) := s_clip hc (by rfl)
 rw [hcl]
 try simp (disch := first | omega | assumption | rfl) only [↓reduceIte, go_sem, Nat.reduceLT, Nat.reduceEqDiff, Nat.reduceSub]
 refine hK _ _ ?_; clear hK hgd; clear K; try clear gd
 repeat refine c_r ?_
 refine rt0 Tryz.ntmps183 ?_
 exact ⟨⟨a, L.length, rfl, Nat.le_refl _, hl⟩, rfl⟩

theorem Clone_ok {w : World} {v : Value} {L : List (List Value)} (hr : RowK 7 w v L) (hk : ∀ x ∈ L, x.length = 7) (h1 : ∀ x ∈ L, ∀ q ∈ x, one q = true) (hlen : L.length ≤ 10000000000) :
  Fn Tryz.prog 181 #[v] w (fun u w' => OwnK 7 w.heap.size w' 110 u L ∧ Ext w w') := by
 have hr' := hr
 obtain ⟨a, c, rfl, hc, hl⟩ := hr
 refine enter Tryz.func181 Tryz.ntmps181 rfl rfl ?_
 repeat refine c_r ?_
 refine rg0 ?_
 repeat refine c_r ?_
 refine rq ?_; intro gd K hgd hK
 try simp (disch := first | omega | assumption | rfl) only [↓reduceIte, go_sem, Nat.reduceLT, Nat.reduceEqDiff, Nat.reduceSub]
 refine eql_nil (by rfl) (by rfl) (by rfl) ?_
 try simp (disch := first | omega | assumption | rfl) only [↓reduceIte, go_sem, Nat.reduceLT, Nat.reduceEqDiff, Nat.reduceSub]
 refine hK _ _ ?_; clear hK hgd; clear K; try clear gd
 repeat refine c_r ?_
 cases a with
 | none =>
  have : L = [] := by
   cases L with
   | nil => rfl
   | cons x L => have := hl 0 (by simp); simp [cellsO, adr] at this
  subst this
  refine wc0 ?_ ?_
  ·intro _
   repeat refine c_r ?_
   refine rg0 ?_
   repeat refine c_r ?_
   refine rt0 Tryz.ntmps181 ?_
   exact ⟨OwnK.nil _ _ _ _, Keep.refl _ _⟩
  ·intro h; cases h
 | some a =>
  refine wc0 ?_ ?_
  ·intro h; cases h
  intro _
  repeat refine c_r ?_
  refine rq ?_; intro gd K hgd hK
  try simp (disch := first | omega | assumption | rfl) only [↓reduceIte, go_sem, Nat.reduceLT, Nat.reduceEqDiff, Nat.reduceSub]
  refine bs_nilK (k := 7) (by rfl) (by rfl) (by rfl) (by rfl) ?_
  intro w1 hE1 hs1 ho1
  try simp (disch := first | omega | assumption | rfl) only [↓reduceIte, go_sem, Nat.reduceLT, Nat.reduceEqDiff, Nat.reduceSub]
  refine op_appK (k := 7) (B := w.heap.size) ho1 (hr'.ext hE1) (by rfl) (by rfl) (by rfl) (by rfl) (by rfl) (by rfl) (by decide) (by rfl) (by rfl) hk h1 (by simpa using by omega) (by decide) (by omega) ?_
  intro v' w2 ho2 hE2 _ _ _
  try simp (disch := first | omega | assumption | rfl) only [↓reduceIte, go_sem, Nat.reduceLT, Nat.reduceEqDiff, Nat.reduceSub]
  refine hK _ _ ?_; clear hK hgd; clear K; try clear gd
  repeat refine c_r ?_
  refine rt0 Tryz.ntmps181 ?_
  exact ⟨by simpa using ho2, hE2 w hE1 (Nat.le_refl _)⟩
end Go.Proofs.YtopbbjdembnfdaaGreat.S_rec

namespace Go.Proofs.YtopbbjdembnfdaaGreat.S_rec
open Go Go.Proofs.YtopbbjdembnfdaaGreat
set_option maxRecDepth 10000

theorem insertionSort_nil (w : World) (cmp : Value) : Fn Tryz.prog 240 #[.slice Option.none 0 0, vi 0, vi 0, cmp] w (fun _ w' => w' = w) := by
 refine enter Tryz.func240 Tryz.ntmps240 rfl rfl ?_
 repeat (first | refine c_r ?_ | refine rg0 ?_)
 refine W_loop (fun m σ ds v => ds = [] ∧ v = w ∧ σ 8 = vi 1 ∧ σ 2 = vi 0) 0 ?_ ?_
 ·exact ⟨rfl, rfl, by simp only [↓reduceIte, go_sem, Nat.reduceLT, Nat.reduceEqDiff, Nat.reduceSub]; rfl, vq0⟩
 ·rintro m σ ds v ⟨rfl, rfl, h8, h2⟩
  repeat refine c_r ?_
  refine rg2 h8 h2 ?_
  repeat refine c_r ?_
  refine wc0 ?_ ?_
  ·intro h; exact absurd h (by decide)
  ·intro _
   repeat refine c_r ?_
   exact ret_none (by simp) rfl rfl

theorem stable_nil (w : World) (cmp : Value) : Fn Tryz.prog 213 #[.slice Option.none 0 0, vi 0, cmp] w (fun _ w' => w' = w) := by
 refine enter Tryz.func213 Tryz.ntmps213 rfl rfl ?_
 repeat refine c_r ?_
 refine rg0 ?_
 repeat refine c_r ?_
 refine rg0 ?_
 repeat refine c_r ?_
 refine W_loop (fun m σ ds v => ds = [] ∧ v = w ∧ σ 6 = vi 20 ∧ σ 7 = vi 0 ∧ σ 8 = vi 20 ∧ σ 0 = .slice Option.none 0 0 ∧ σ 1 = vi 0 ∧ σ 2 = cmp) 0 ?_ ?_
 ·exact ⟨rfl, rfl, vq0, vq0, vq0, vq0, vq0, vq0⟩
 ·rintro m σ ds v ⟨rfl, rfl, h6, h7, h8, h0, h1, h2⟩
  repeat refine c_r ?_
  refine rg2 h8 h1 ?_
  repeat refine c_r ?_
  refine wc0 ?_ ?_
  ·intro h; exact absurd h (by decide)
  intro _
  repeat refine c_r ?_
  refine rq ?_; intro gd K hgd hK
  try simp (disch := first | omega | assumption | rfl) only [↓reduceIte, go_sem, Nat.reduceLT, Nat.reduceEqDiff, Nat.reduceSub, h0, h7, h1, h2]
  refine Fn.mono (insertionSort_nil v cmp) ?_
  rintro _ w1 hw1
  subst hw1
  try simp (disch := first | omega | assumption | rfl) only [↓reduceIte, go_sem, Nat.reduceLT, Nat.reduceEqDiff, Nat.reduceSub]
  refine hK _ _ ?_; clear hK hgd; clear K; try clear gd
  repeat refine c_r ?_
  refine W_loop (fun m σ ds v => ds = [] ∧ v = w1 ∧ σ 6 = vi 20 ∧ σ 1 = vi 0) 0 ?_ ?_
  ·exact ⟨rfl, rfl, (vq1 h6), (vq1 h1)⟩
  ·rintro m3 σ3 ds3 v3 ⟨rfl, rfl, g6, g1⟩
   repeat refine c_r ?_
   refine rg2 g6 g1 ?_
   repeat refine c_r ?_
   refine wc0 ?_ ?_
   ·intro h; exact absurd h (by decide)
   ·intro _
    repeat refine c_r ?_
    exact ret_none (by simp) rfl rfl

theorem SortStable_nil (w : World) (cmp : Value) : Fn Tryz.prog 182 #[.slice Option.none 0 0, cmp] w (fun _ w' => w' = w) := by
 refine enter Tryz.func182 Tryz.ntmps182 rfl rfl ?_
 repeat refine c_r ?_
 refine rq ?_; intro gd K hgd hK
 try simp (disch := first | omega | assumption | rfl) only [↓reduceIte, go_sem, Nat.reduceLT, Nat.reduceEqDiff, Nat.reduceSub]
 refine Fn.mono (stable_nil w cmp) ?_
 rintro _ w1 hr
 try simp (disch := first | omega | assumption | rfl) only [↓reduceIte, go_sem, Nat.reduceLT, Nat.reduceEqDiff, Nat.reduceSub]
 refine hK _ _ ?_; clear hK hgd; clear K; try clear gd
 repeat refine c_r ?_
 exact ret_none (by simp) rfl hr

section
variable {α : Type} {enc : α → List Value}
theorem SortOwn_ok {w0 w : World} {B : Nat} {v : Value} {U : α → Prop} {cf : α → α → Int} {lt older : α → α → Prop} {g : FuncId} {cb : List Value} (hc : Cmp w0 enc U cf g cb) (ho : Older cf lt older) (hB : w0.heap.size ≤ B)
  {D : List α} (hU : ∀ x ∈ D, U x) (hOD : D.Pairwise older) (hD : OwnK 7 B w 110 v (D.map enc)) (hlen : D.length ≤ 100000000000) (hE : Ext w0 w) :
  Fn Tryz.prog 182 #[v, cmpV g cb] w (fun _ w' => ∃ Z : List α, Z.Perm D ∧ Z.Pairwise lt ∧ OwnK 7 B w' 110 v (Z.map enc) ∧ Keep (fun i => some i = v.ownBlock) w w') := by
 rcases hD.cases with ⟨rfl, h0⟩ | ⟨b, cap, rfl, hb, hc2, hm, hSD⟩
 ·have : D = [] := List.map_eq_nil_iff.1 h0
  subst this
  refine Fn.mono (SortStable_nil w _) ?_
  rintro _ w1 rfl
  exact ⟨[], List.Perm.refl _, List.Pairwise.nil, OwnK.nil _ _ _ _, Keep.refl _ _⟩
 ·rw [List.length_map] at hc2 ⊢
  refine Fn.mono (SortStable_ok (b := b) (cap := cap) (lt := lt) hc ho (by omega) rfl hU hOD hSD hlen hE) ?_
  rintro _ w1 ⟨⟨Z, hp, hs, hL⟩, hK⟩
  refine ⟨Z, hp, hs, ?_, ?_⟩
  ·have := OwnK.of_sd (B := B) hL hb (by rw [List.length_map, hp.length_eq]; exact hc2) hm
   rw [List.length_map, hp.length_eq] at this
   exact this
  ·have : (fun i => some i = (Value.slice (some ⟨b, 0, Option.none⟩) D.length cap).ownBlock) = (fun i => i = b) := by
    funext i; simp [Value.ownBlock]
   rw [this]; exact hK
end
end Go.Proofs.YtopbbjdembnfdaaGreat.S_rec

namespace Go.Proofs.YtopbbjdembnfdaaGreat
open Go
set_option maxRecDepth 10000

theorem RecAt.len {w : World} {cs : List Value} {r : RecL} (h : RecAt w cs r) : cs.length = 7 := by
 obtain ⟨ow, ds, rfl, _, ⟨nm, nu, tx, rw', rfl, _⟩⟩ := h.ex
 rfl
theorem RecAt.ones {w : World} {cs : List Value} {r : RecL} (h : RecAt w cs r) : ∀ q ∈ cs, one q = true := by
 obtain ⟨ow, ds, rfl, ⟨o1, o2, rfl, _⟩, ⟨nm, nu, tx, rw', rfl, ⟨_, ⟨o3, o4, rfl, _⟩, _⟩, ⟨o5, o6, rfl, _⟩, ⟨o7, o8, rfl, _⟩, ⟨o9, o10, rfl, _⟩⟩⟩ := h.ex
 intro q hq
 simp at hq
 rcases hq with rfl | rfl | rfl | rfl | rfl | rfl | rfl <;> rfl

abbrev RI := (List Value × RecL) × Nat
def encR (x : RI) : List Value := x.1.1
def olderR (a b : RI) : Prop := a.2 < b.2
def ltR (a b : RI) : Prop := cmpRec a.1.2 b.1.2 < 0 ∨ (cmpRec a.1.2 b.1.2 = 0 ∧ a.2 < b.2)
def cfR (a b : RI) : Int := cmpRec a.1.2 b.1.2
def UR (w : World) (x : RI) : Prop := RecAt w x.1.1 x.1.2 ∧ RecOk x.1.2

theorem cmp_R {w0 w : World} (hE0 : Ext w0 w) : S_rec.Cmp w encR (UR w0) cfR 137 [] :=
 ⟨by decide, fun A x y hE hx hy => RecCompare_ok A _ _ _ _ (hx.1.ext (hE0.trans hE)) (hy.1.ext (hE0.trans hE)) hx.2 hy.2⟩
theorem older_R : Older cfR ltR olderR := by
 refine ⟨fun {a b c} h1 h2 => ?_, fun {x y} ho h => .inl h, fun {x y} ho h => ?_⟩
 ·rcases h1 with h1 | ⟨h1, g1⟩ <;> rcases h2 with h2 | ⟨h2, g2⟩
  ·exact .inl (cpr_R.trans h1 h2)
  ·exact .inl (by rw [← cpr_R.eqr h2]; exact h1)
  ·exact .inl (by rw [cpr_R.eql h1]; exact h2)
  ·exact .inr ⟨by rw [cpr_R.eql h1]; exact h2, by omega⟩
 ·have := cpr_R.neg x.1.2 y.1.2
  have h' : ¬ cmpRec y.1.2 x.1.2 < 0 := h
  by_cases h0 : cmpRec x.1.2 y.1.2 = 0
  ·exact .inr ⟨h0, ho⟩
  ·exact .inl (by omega)

def zeroR : List Value := [.slice Option.none 0 0, v32 0, vi 0, .slice Option.none 0 0, .slice Option.none 0 0, .slice Option.none 0 0, .slice Option.none 0 0]
theorem sd_zero (w : World) : SD 7 (w.alloc (.cells #[.slice Option.none 0 0, v32 0, vi 0, .slice Option.none 0 0, .slice Option.none 0 0, .slice Option.none 0 0, .slice Option.none 0 0] 110 (0, 0))) w.heap.size 110 1 [zeroR] :=
 ⟨⟨_, [], new_block _ _, rfl, rfl⟩, fun x h => (by rw [List.mem_singleton.1 h]; rfl), fun x h v hv => (by rw [List.mem_singleton.1 h] at hv; simp [zeroR] at hv; rcases hv with rfl | rfl | rfl | rfl <;> rfl)⟩

def alikeL (O : List RecL) (r : RecL) : Bool := match O.getLast? with
 | some x => decide (cmpRec x r = 0)
 | Option.none => false

theorem putC_end {α : Type} {cf : α → α → Int} {jn : α → α → α} (hc : Cpr cf) {O' : List α} {z r : α} (hs : (O' ++ [z]).Pairwise (fun a b => cf a b < 0)) (hle : ¬ 0 < cf z r) :
  putC cf jn r (O' ++ [z]) = if cf z r = 0 then O' ++ [jn z r] else O' ++ [z, r] := by
 refine putC_last (fun y hy => ?_) hle
 have h1 := (List.pairwise_append.1 hs).2.2 y hy z (by simp)
 by_cases h0 : cf z r = 0
 ·rw [← hc.eqr h0]; exact h1
 ·exact hc.trans h1 (by omega)
theorem recs_set {w : World} {LO : List (List Value)} {O' : List RecL} {z m : RecL} {X : List Value} {j : Nat} (hj : O'.length = j) (hl : LO.length = j + 1)
  (h : ∀ q (h : q < LO.length) (h' : q < (O' ++ [z]).length), RecAt w LO[q] (O' ++ [z])[q]) (hX : RecAt w X m) :
  ∀ q (h : q < (LO.set j X).length) (h' : q < (O' ++ [m]).length), RecAt w (LO.set j X)[q] (O' ++ [m])[q] := by
 intro q h1 h2
 by_cases hq : q = j
 ·subst hq
  have e1 : (LO.set q X)[q] = X := by simp
  have e2 : (O' ++ [m])[q] = m := by simp [← hj]
  rw [e1, e2]; exact hX
 ·have hq2 : q < O'.length := by simp at h2; omega
  have e1 : (LO.set j X)[q] = LO[q]'(by omega) := List.getElem_set_ne (by omega) _
  have e2 : (O' ++ [m])[q] = O'[q] := List.getElem_append_left hq2
  have e3 : (O' ++ [z])[q]'(by simp; omega) = O'[q] := List.getElem_append_left hq2
  rw [e1, e2, ← e3]; exact h q (by omega) (by simp; omega)
theorem recs_push {w : World} {LO : List (List Value)} {O : List RecL} {m : RecL} {X : List Value} (hl : LO.length = O.length)
  (h : ∀ q (h : q < LO.length) (h' : q < O.length), RecAt w LO[q] O[q]) (hX : RecAt w X m) :
  ∀ q (h : q < (LO ++ [X]).length) (h' : q < (O ++ [m]).length), RecAt w (LO ++ [X])[q] (O ++ [m])[q] := by
 intro q h1 h2
 by_cases hq : q < LO.length
 ·rw [List.getElem_append_left hq, List.getElem_append_left (by omega)]; exact h q hq (by omega)
 ·have hq1 : q = LO.length := by simp at h1; omega
  have e1 : (LO ++ [X])[q] = X := by simp [hq1]
  have e2 : (O ++ [m])[q] = m := by simp [hq1, hl]
  rw [e1, e2]; exact hX

theorem few_ok (w0 w : World) (hE0 : Ext w0 w) {v : Value} {R : List RecL} (hR : Rows 7 (RecAt w0) w v R) (hok : ∀ r ∈ R, RecOk r) (hlen : R.length ≤ 1000000000) :
  Fn Tryz.prog 136 #[v, .func (.func 137) #[] #[], .func (.func 138) #[] #[]] w (fun u w' => Rows 7 (RecAt w0) w' u (canonL R) ∧ Ext w w' ∧ BlkB w.heap.size w' u) := by
 obtain ⟨L, hrow, hl, hat⟩ := hR
 have hk : ∀ x ∈ L, x.length = 7 := fun x hx => by
  obtain ⟨i, hi, rfl⟩ := List.getElem_of_mem hx
  exact (hat i hi (by omega)).len
 have h1 : ∀ x ∈ L, ∀ q ∈ x, one q = true := fun x hx => by
  obtain ⟨i, hi, rfl⟩ := List.getElem_of_mem hx
  exact (hat i hi (by omega)).ones
 obtain ⟨D, hD⟩ : ∃ D : List RI, D = (L.zip R).zipIdx := ⟨_, rfl⟩
 have hDe : D.map encR = L := by
  rw [hD]
  show (List.zipIdx (L.zip R)).map (Prod.fst ∘ Prod.fst) = L
  rw [← List.map_map, List.zipIdx_map_fst, List.map_fst_zip (by omega)]
 have hDr : D.map (fun x => x.1.2) = R := by
  rw [hD]
  show (List.zipIdx (L.zip R)).map (Prod.snd ∘ Prod.fst) = R
  rw [← List.map_map, List.zipIdx_map_fst, List.map_snd_zip (by omega)]
 have hDl : D.length = R.length := by rw [← hDr, List.length_map]
 have hDo : D.Pairwise olderR := by
  rw [hD, List.pairwise_iff_getElem]
  intro i j hi hj hij
  simp [olderR, hij]
 have hDU : ∀ x ∈ D, UR w0 x := fun x hx => by
  rw [hD] at hx
  obtain ⟨i, hi, rfl⟩ := List.getElem_of_mem hx
  have hi' : i < R.length := by simp at hi; omega
  have hi2 : i < L.length := by omega
  simp only [List.getElem_zipIdx, List.getElem_zip, UR]
  exact ⟨hat i hi2 hi', hok _ (List.getElem_mem hi')⟩
 refine enter Tryz.func136 Tryz.ntmps136 rfl rfl ?_
 repeat refine c_r ?_
 refine rg0 ?_
 repeat refine c_r ?_
 refine rq ?_; intro gd K hgd hK
 try simp (disch := first | omega | assumption | rfl) only [↓reduceIte, go_sem, Nat.reduceLT, Nat.reduceEqDiff, Nat.reduceSub]
 refine Fn.mono (S_rec.Clone_ok hrow hk h1 (by omega)) ?_
 rintro vs1 w1 ⟨ho1, hE1⟩
 try simp (disch := first | omega | assumption | rfl) only [↓reduceIte, go_sem, Nat.reduceLT, Nat.reduceEqDiff, Nat.reduceSub]
 refine hK _ _ ?_; clear hK hgd; clear K; try clear gd
 repeat refine c_r ?_
 refine rq ?_; intro gd K hgd hK
 try simp (disch := first | omega | assumption | rfl) only [↓reduceIte, go_sem, Nat.reduceLT, Nat.reduceEqDiff, Nat.reduceSub]
 rw [← hDe] at ho1
 refine Fn.mono (S_rec.SortOwn_ok (w0 := w) (cb := []) (cmp_R hE0) older_R (Nat.le_refl _) hDU hDo ho1 (by omega) hE1) ?_
 rintro _ w2 ⟨Z, hp, hs, ho2, hK2⟩
 try simp (disch := first | omega | assumption | rfl) only [↓reduceIte, go_sem, Nat.reduceLT, Nat.reduceEqDiff, Nat.reduceSub]
 refine hK _ _ ?_; clear hK hgd; clear K; try clear gd
 repeat refine c_r ?_
 have hE2 : Ext w w2 := Keep.to_ext hE1 rfl (fun i hi => by have := (ho1.ge hi).1; omega) hK2
 have hE02 := hE0.trans hE2
 have hUZ : ∀ x ∈ Z, UR w0 x := fun x hx => hDU x (hp.mem_iff.1 hx)
 have hZl := hp.length_eq
 obtain ⟨aS, cS, rfl, hcs, hget⟩ := ho2.rowK
 refine rg0 ?_
 repeat refine c_r ?_
 refine rg0 ?_
 repeat refine c_r ?_
 rw [List.length_map] at hcs
 simp only [List.length_map]
 refine W_loop (fun m σ ds v => ds = [] ∧ ∃ (i : Nat) (vO : Value) (LO : List (List Value)) (O : List RecL), i + m = Z.length ∧ σ 18 = vi i ∧ σ 17 = vi Z.length ∧ σ 16 = .slice aS Z.length cS ∧ σ 7 = vO ∧ σ 1 = .func (.func 137) #[] #[] ∧ σ 2 = .func (.func 138) #[] #[] ∧
  OwnK 7 w2.heap.size v 110 vO LO ∧ LO.length = O.length ∧ (∀ j (h : j < LO.length) (h' : j < O.length), RecAt w0 LO[j] O[j]) ∧ (∀ r ∈ O, RecOk r) ∧ O.length ≤ i ∧ O = foldC cmpRec minT (fun x : RI => x.1.2) (Z.take i) [] ∧ Ext w2 v ∧ O.Pairwise (fun a b => cmpRec a b < 0) ∧ (∀ o ∈ O, ∀ z ∈ Z.drop i, ¬ 0 < cmpRec o z.1.2)) Z.length ?_ ?_
 ·refine ⟨rfl, 0, .slice Option.none 0 0, [], [], by omega, vr0, vq0, vq0, vq0, vq0, vq0, OwnK.nil _ _ _ _, rfl, fun j h => absurd h (by simp), fun r h => absurd h (by simp), by simp, rfl, Keep.refl _ _, List.Pairwise.nil, fun o h => absurd h (by simp)⟩
 rintro m σ ds v ⟨rfl, i, vO, LO, O, him, h18, h17, h16, h7, hs1, hs2, hO, hOl, hOat, hOok, hOi, hOf, hE3, hOs, hOle⟩
 repeat refine c_r ?_
 refine rg2 h18 h17 ?_
 repeat refine c_r ?_
 refine wc0 ?_ ?_
 ·intro hlt
  simp only [decide_eq_true_eq] at hlt
  have hiZ : i < Z.length := by omega
  have hgi := cellsO_ext hE3 (hget i (by simpa using hiZ))
  have hi0 : (0 : Int) ≤ (i : Int) := by omega
  have hi1 : (i : Int) < (Z.length : Int) := by omega
  obtain ⟨xS, rfl⟩ := Option.isSome_iff_exists.1 (cellsO_some hgi)
  obtain ⟨r, hr⟩ : ∃ r, Z[i] = r := ⟨_, rfl⟩
  have hUr : UR w0 r := hr ▸ hUZ _ (List.getElem_mem hiZ)
  have hgr : cellsO v (adr (some xS) (i * 7)) 7 = some r.1.1 := by rw [hgi, List.getElem_map, hr]; rfl
  repeat refine c_r ?_
  refine rq ?_; intro gd K hgd hK
  try simp (disch := first | omega | assumption | rfl) only [↓reduceIte, go_sem, Nat.reduceLT, Nat.reduceEqDiff, Nat.reduceSub, h18, h16, hi0, hi1, hgr]
  refine SD.set (P := Tryz.prog) (t := 110) (sd_zero v) (j := 0) (by simp) hUr.1.len hUr.1.ones rfl rfl ?_
  intro v1 hvs1 hL1 hk1
  have hX1 := Ext.alloc v (.cells #[.slice Option.none 0 0, v32 0, vi 0, .slice Option.none 0 0, .slice Option.none 0 0, .slice Option.none 0 0, .slice Option.none 0 0] 110 (0, 0))
  have hEv : Ext v v1 := Keep.to_ext hX1 rfl (fun i hi => by omega) hk1
  have hvsz : v1.heap.size = v.heap.size + 1 := by rw [hvs1]; exact new_size _ _
  clear hk1 hX1 hvs1
  try simp (disch := first | omega | assumption | rfl) only [↓reduceIte, go_sem, Nat.reduceLT, Nat.reduceEqDiff, Nat.reduceSub]
  refine hK _ _ ?_; clear hK hgd; clear K; try clear gd
  have hE4 := hE3.trans hEv
  have hO1 := hO.ext hEv
  have hg9 := hL1.get (j := 0) (by simp)
  have hsO := hO.rowK
  obtain ⟨aO, cO, hvO, hcO, hgO⟩ := hO1.rowK
  rw [hOl] at hvO
  repeat refine c_r ?_
  refine rg2 h7 hvO ?_
  repeat refine c_r ?_
  refine W_mono (Q := fun e σ' ds' v' => e = .normal ∧ ds' = [] ∧ σ' 36 = .bool (alikeL O r.1.2) ∧ σ' 18 = vi i ∧ σ' 17 = vi Z.length ∧ σ' 16 = .slice (some xS) Z.length cS ∧ σ' 7 = .slice aO O.length cO ∧ σ' 1 = .func (.func 137) #[] #[] ∧ σ' 2 = .func (.func 138) #[] #[] ∧
   σ' 9 = .pointer (some ⟨v.heap.size, 0, Option.none⟩) ∧ σ' 10 = vi O.length ∧ Ext v1 v') ?_ ?_
  ·rcases List.eq_nil_or_concat O with hO0 | ⟨O', z, hO0⟩
   ·have hn : ¬ ((0 : Int) < (O.length : Int)) := by rw [hO0]; simp
    have hal : alikeL O r.1.2 = false := by rw [hO0]; rfl
    refine W_drw (fun _ => false) [(0, true), (1, true), (2, true), (3, true), (4, true), (5, true), (6, true), (7, true), (8, true), (9, true), (10, false), (11, true), (12, true)] NoS mixed (by kernel_rfl) ?_; intro gd K x hgd hx hxe hK; clear hxe
    have hg2 : ∀ n σ b, wantV gd n σ (some (2, b)) = boolIs (ev n σ (.tmp 26)) b := (fun n σ b => by rw [wantV_some, show gd 2 = some 26 from (by rw [hgd]; rfl)]; rfl)
    simp (disch := first | omega | assumption | rfl) only [↓reduceIte, go_sem, Nat.reduceLT, Nat.reduceEqDiff, Nat.reduceSub, h18, h17, h16, h7, hvO, hs1, hs2, decide_eq_false hn, ↓hg2]
    refine hK _ _ ?_; clear hK hgd; clear K; try clear gd
    exact ⟨rfl, rfl, by rw [hal]; simp only [↓reduceIte, go_sem, Nat.reduceLT, Nat.reduceEqDiff, Nat.reduceSub], (vq1 h18), (vq1 h17), (vq1 h16), (vq2 h7 hvO), (vq1 hs1), (vq1 hs2), vq0, vq0, hx⟩
   ·rw [List.concat_eq_append] at hO0
    obtain ⟨j, hj⟩ : ∃ j, O'.length = j := ⟨_, rfl⟩
    have hOj : O.length = j + 1 := by rw [hO0]; simp [hj]
    have hn : decide ((0 : Int) < ((j + 1 : Nat) : Int)) = true := decide_eq_true (by omega)
    have hs : ((j + 1 : Nat) : Int) - 1 = (j : Int) := by omega
    have hj0 : (0 : Int) ≤ (j : Int) := by omega
    have hj1 : (j : Int) < ((j + 1 : Nat) : Int) := by omega
    have hal : alikeL O r.1.2 = decide (cmpRec z r.1.2 = 0) := by unfold alikeL; rw [hO0]; simp
    have hgj := hgO j (by omega)
    have hRj := hOat j (by omega) (by omega)
    have hxj : O[j]'(by omega) = z := by simp only [hO0, ← hj]; simp
    rw [hxj] at hRj
    have hokx : RecOk z := hOok z (by rw [hO0]; simp)
    obtain ⟨xO, rfl⟩ := Option.isSome_iff_exists.1 (cellsO_some hgj)
    obtain ⟨cx, hcx⟩ : ∃ cx, LO[j]'(by omega) = cx := ⟨_, rfl⟩
    rw [hcx] at hgj hRj
    rw [hOj] at hvO ⊢
    refine W_drw (fun _ => false) [(0, true), (1, true), (2, true), (3, true), (4, true), (5, true), (6, true), (7, true), (8, true), (9, true), (10, false), (11, true), (12, true)] NoS mixed (by kernel_rfl) ?_; intro gd K x hgd hx hxe hK; clear hxe
    have hg2 : ∀ n σ b, wantV gd n σ (some (2, b)) = boolIs (ev n σ (.tmp 26)) b := (fun n σ b => by rw [wantV_some, show gd 2 = some 26 from (by rw [hgd]; rfl)]; rfl)
    have d1 := cellsO_ext hx hgj
    have d2 := cellsO_ext hx hg9
    simp (disch := first | omega | assumption | rfl) only [↓reduceIte, go_sem, Nat.reduceLT, Nat.reduceEqDiff, Nat.reduceSub, h18, h17, h16, h7, hvO, hs1, hs2, hn, hs, hj0, hj1, d1, d2, hOj, ↓hg2]
    refine Fn.mono (RecCompare_ok x cx r.1.1 z r.1.2 (hRj.ext ((hE02.trans hE4).trans hx)) (hUr.1.ext ((hE02.trans hE4).trans hx)) hokx hUr.2) ?_
    rintro _ x2 ⟨rfl, hx2⟩
    refine ⟨.inr hx2, ?_⟩
    simp (disch := first | omega | assumption | rfl) only [↓reduceIte, go_sem, Nat.reduceLT, Nat.reduceEqDiff, Nat.reduceSub, ↓hg2]
    refine hK _ _ ?_; clear hK hgd; clear K; try clear gd
    exact ⟨rfl, rfl, by rw [hal]; simp only [↓reduceIte, go_sem, Nat.reduceLT, Nat.reduceEqDiff, Nat.reduceSub], (vq1 h18), (vq1 h17), (vq1 h16), (vq2 h7 hvO), (vq1 hs1), (vq1 hs2), vq0, vq0, hx.trans hx2⟩
  rintro _ σ2 _ v2 ⟨rfl, rfl, g36, g18, g17, g16, g7, gs1, gs2, g9, g10, hE5⟩
  have hE6 := hE4.trans hE5
  have hO2 := hO1.ext hE5
  have hg92 := cellsO_ext hE5 hg9
  have hi1' : (i : Int) + 1 = ((i + 1 : Nat) : Int) := by push_cast; rfl
  have htk : Z.take (i + 1) = Z.take i ++ [r] := by rw [take_succ' hiZ, hr]
  have hf1 : foldC cmpRec minT (fun x : RI => x.1.2) (Z.take (i + 1)) [] = putC cmpRec minT r.1.2 O := by
   rw [htk, hOf]; unfold foldC; rw [List.foldl_append]; rfl
  have hdr : Z.drop i = r :: Z.drop (i + 1) := by rw [List.drop_eq_getElem_cons hiZ, hr]
  have hn1 : (putC cmpRec minT r.1.2 O).Pairwise (fun a b => cmpRec a b < 0) := putC_sorted cpr_R join_R hOs
  have hn2 : ∀ o ∈ putC cmpRec minT r.1.2 O, ∀ z ∈ Z.drop (i + 1), ¬ 0 < cmpRec o z.1.2 := by
   refine putC_all (Q := fun o => ∀ z ∈ Z.drop (i + 1), ¬ 0 < cmpRec o z.1.2) (fun x hx h0 z hz => ?_) (fun z hz => ?_) (fun o ho z hz => hOle o ho z (by rw [hdr]; exact List.mem_cons_of_mem _ hz))
   ·have e1 : cmpRec (minT x r.1.2) z.1.2 = cmpRec x z.1.2 := rfl
    rw [e1]; exact hx z hz
   ·have h3 := List.Pairwise.sublist (List.drop_sublist i Z) hs
    rw [hdr] at h3
    have h4 := (List.pairwise_cons.1 h3).1 z hz
    rcases h4 with h4 | h4
    ·omega
    ·omega
  have hn3 : ∀ o ∈ putC cmpRec minT r.1.2 O, RecOk o := putC_all (fun x hx _ => ⟨hx.lb, hx.len, hx.dat⟩) hUr.2 hOok
  repeat refine c_r ?_
  refine W_cond (t := alikeL O r.1.2) (by simp only [↓reduceIte, go_sem, Nat.reduceLT, Nat.reduceEqDiff, Nat.reduceSub, g36]) ?_ ?_
  ·intro hal
   rcases List.eq_nil_or_concat O with hO0 | ⟨O', z, hO0⟩
   ·rw [hO0] at hal; simp [alikeL] at hal
   rw [List.concat_eq_append] at hO0
   have hz0 : cmpRec z r.1.2 = 0 := by unfold alikeL at hal; rw [hO0] at hal; simpa using hal
   obtain ⟨j, hj⟩ : ∃ j, O'.length = j := ⟨_, rfl⟩
   have hOj : O.length = j + 1 := by rw [hO0]; simp [hj]
   have hs : ((j + 1 : Nat) : Int) - 1 = (j : Int) := by omega
   have hj0 : (0 : Int) ≤ (j : Int) := by omega
   have hj1 : (j : Int) < ((j + 1 : Nat) : Int) := by omega
   have hRj := hOat j (by omega) (by omega)
   have hxj : O[j]'(by omega) = z := by simp only [hO0, ← hj]; simp
   rw [hxj] at hRj
   have hokz : RecOk z := hOok z (by rw [hO0]; simp)
   obtain ⟨cx, hcx⟩ : ∃ cx, LO[j]'(by omega) = cx := ⟨_, rfl⟩
   rw [hcx] at hRj
   rw [hOj] at hvO g10 g7
   rcases hO2.cases with ⟨hv0, h0⟩ | ⟨b, cap, hvb, hbB, hbc, hbm, hSD⟩
   ·rw [h0] at hOl; simp at hOl; omega
   rw [hvO, hOl, hOj] at hvb
   have hao : aO = some ⟨b, 0, Option.none⟩ := by injection hvb
   have hcap : cO = cap := by injection hvb
   subst hao hcap
   have hdj := hSD.get (j := j) (by omega)
   rw [hcx] at hdj
   repeat refine c_r ?_
   refine W_drw (fun i => i == 12) [(0, true), (1, true), (2, true), (3, true), (4, true), (5, true), (6, true), (7, true), (8, true), (9, true), (10, false), (11, true), (12, false)] NoS mixed (by kernel_rfl) ?_; intro gd K x hgd hx hxe hK; clear hxe
   have d1 := cellsO_ext hx hdj
   have d2 := cellsO_ext hx hg92
   simp (disch := first | omega | assumption | rfl) only [↓reduceIte, go_sem, Nat.reduceLT, Nat.reduceEqDiff, Nat.reduceSub, g7, g10, gs2, g9, hs, hj0, hj1, d1, d2]
   refine Fn.mono (LeastTtl_ok x cx r.1.1 z r.1.2 (hRj.ext ((hE02.trans hE6).trans hx)) (hUr.1.ext ((hE02.trans hE6).trans hx))) ?_
   rintro _ v3 ⟨rfl, hE7⟩
   refine ⟨.inr hE7, ?_⟩
   simp (disch := first | omega | assumption | rfl) only [↓reduceIte, go_sem, Nat.reduceLT, Nat.reduceEqDiff, Nat.reduceSub, g7, g10, hs, hj0, hj1]
   have hSD3 := (hSD.ext hx).ext hE7
   have hRm := hRj.minT (b := r.1.2)
   refine SD.set (P := Tryz.prog) (t := 110) hSD3 (j := j) (by omega) hRm.len hRm.ones rfl rfl ?_
   intro v4 hv4 hL4 hk4
   refine ⟨.inl rfl, ?_⟩
   simp (disch := first | omega | assumption | rfl) only [↓reduceIte, go_sem, Nat.reduceLT, Nat.reduceEqDiff, Nat.reduceSub]
   refine hK _ _ ?_; clear hK hgd; clear K; try clear gd
   have hE8 : Ext w2 v4 := Keep.to_ext ((hE6.trans hx).trans hE7) rfl (fun i hi => by omega) hk4
   repeat refine c_r ?_
   refine rg2 g18 hi1' ?_
   repeat refine c_r ?_
   have hO4 := OwnK.of_sd (B := w2.heap.size) hL4 hbB (by rw [List.length_set]; exact hbc) hbm
   have hLl : LO.length = j + 1 := by omega
   rw [List.length_set, hLl] at hO4
   have hput : putC cmpRec minT r.1.2 O = O' ++ [minT z r.1.2] := by
    rw [hO0] at hOs hOle ⊢
    rw [putC_end cpr_R hOs (by omega), if_pos hz0]
   rw [hput] at hn1 hn2 hn3
   subst hO0
   refine ⟨m - 1, by omega, rfl, i + 1, .slice (some ⟨b, 0, Option.none⟩) (j + 1) cO, _, O' ++ [minT z r.1.2], by omega, vq0, (vq1 g17), (vq1 g16), (vq1 g7), by simp only [↓reduceIte, go_sem, Nat.reduceLT, Nat.reduceEqDiff, Nat.reduceSub, gs1], by simp only [↓reduceIte, go_sem, Nat.reduceLT, Nat.reduceEqDiff, Nat.reduceSub, gs2], hO4, by simp [hLl, hj], recs_set hj hLl hOat hRm, hn3, by simp at hOi ⊢; omega, by rw [hf1, hput], hE8, hn1, hn2⟩
  ·intro hal
   have hput : putC cmpRec minT r.1.2 O = O ++ [r.1.2] := by
    rcases List.eq_nil_or_concat O with hO0 | ⟨O', z, hO0⟩
    ·rw [hO0]; rfl
    ·rw [List.concat_eq_append] at hO0
     have hz0 : ¬ cmpRec z r.1.2 = 0 := by unfold alikeL at hal; rw [hO0] at hal; simpa using hal
     have hle := hOle z (by rw [hO0]; simp) r (by rw [hdr]; simp)
     rw [hO0] at hOs ⊢
     rw [putC_end cpr_R hOs hle, if_neg hz0]
     simp
   rw [hput] at hn1 hn2 hn3
   rw [hvO] at hO2
   repeat refine c_r ?_
   refine rq ?_; intro gd K hgd hK
   try simp (disch := first | omega | assumption | rfl) only [↓reduceIte, go_sem, Nat.reduceLT, Nat.reduceEqDiff, Nat.reduceSub, g7, g9, hg92]
   refine bs_oneK (k := 7) (by rfl) (by rfl) (by rfl) (by rfl) hUr.1.len (by decide) hUr.1.ones ?_
   intro x1 hX1 hXs hXo
   try simp (disch := first | omega | assumption | rfl) only [↓reduceIte, go_sem, Nat.reduceLT, Nat.reduceEqDiff, Nat.reduceSub]
   refine op_appK (k := 7) (B := w2.heap.size) (hO2.ext hX1) hXo.rowK (by rfl) (by rfl) (by rfl) (by rfl) (by rfl) (by rfl) (by decide) (by rfl) (by rfl) hXo.len hXo.ones (by simp; omega) (by decide) (hE6.trans hX1).size ?_
   intro vO' x2 hO3 hE7 _ _ _
   try simp (disch := first | omega | assumption | rfl) only [↓reduceIte, go_sem, Nat.reduceLT, Nat.reduceEqDiff, Nat.reduceSub]
   refine hK _ _ ?_; clear hK hgd; clear K; try clear gd
   repeat refine c_r ?_
   refine rg2 g18 hi1' ?_
   repeat refine c_r ?_
   refine ⟨m - 1, by omega, rfl, i + 1, vO', _, O ++ [r.1.2], by omega, vq0, (vq1 g17), (vq1 g16), vq0, by simp only [↓reduceIte, go_sem, Nat.reduceLT, Nat.reduceEqDiff, Nat.reduceSub, gs1], by simp only [↓reduceIte, go_sem, Nat.reduceLT, Nat.reduceEqDiff, Nat.reduceSub, gs2], hO3, by simp [hOl], recs_push hOl hOat hUr.1, hn3, by simp; omega, by rw [hf1, hput], hE7 w2 (hE6.trans hX1) (Nat.le_refl _), hn1, hn2⟩
 ·intro hlt
  simp only [decide_eq_false_iff_not] at hlt
  have hiZ : i = Z.length := by omega
  repeat refine c_r ?_
  refine rq ?_; intro gd K hgd hK
  try simp (disch := first | omega | assumption | rfl) only [↓reduceIte, go_sem, Nat.reduceLT, Nat.reduceEqDiff, Nat.reduceSub, h7]
  obtain ⟨aO, cO, hvO, hcO, hgO⟩ := hO.rowK
  have hblk : BlkB w2.heap.size v vO := Owns.blk (C := RecAt w0) (xs := O) ⟨LO, hO, hOl, hOat⟩
  rw [hvO] at hblk
  rw [hvO]
  refine Fn.mono (P_rr.Clip_ok hcO) ?_
  rintro _ v1 ⟨rfl, hv1⟩
  try simp (disch := first | omega | assumption | rfl) only [↓reduceIte, go_sem, Nat.reduceLT, Nat.reduceEqDiff, Nat.reduceSub]
  refine hK _ _ ?_; clear hK hgd; clear K; try clear gd
  repeat refine c_r ?_
  have hfin : O = canonL R := by
   rw [hOf, hiZ, List.take_length, foldC_stable (jn := minT) cpr_R join_R (lt := ltR) (older := olderR) (fun h => h.imp id (fun h => h.2)) (fun {a b} h h' => by unfold olderR at h h'; omega) D Z [] hDo hs hp List.Pairwise.nil]
   unfold canonL foldC
   rw [← hDr, List.foldl_map]; rfl
  refine rt0 Tryz.ntmps136 ?_
  rw [hv1]
  rw [← hfin]
  exact ⟨⟨LO, ⟨aO, LO.length, rfl, Nat.le_refl _, hgO⟩, hOl, hOat⟩, hE2.trans hE3, hblk.same.mono hE2.size⟩

theorem Canon_ok (w0 w : World) (hE0 : Ext w0 w) {v : Value} {R : List RecL} (hR : Rows 7 (RecAt w0) w v R) (hok : ∀ r ∈ R, RecOk r) (hlen : R.length ≤ 1000000000) :
  Fn Tryz.prog 66 #[v] w (fun u w' => Rows 7 (RecAt w0) w' u (canonL R) ∧ Ext w w' ∧ BlkB w.heap.size w' u) := by
 refine enter Tryz.func66 Tryz.ntmps66 rfl rfl ?_
 repeat refine c_r ?_
 refine rg0 ?_
 repeat refine c_r ?_
 refine rq ?_; intro gd K hgd hK
 try simp (disch := first | omega | assumption | rfl) only [↓reduceIte, go_sem, Nat.reduceLT, Nat.reduceEqDiff, Nat.reduceSub]
 refine Fn.mono (few_ok w0 w hE0 hR hok hlen) ?_
 rintro u w1 ⟨h1, hE1, hb⟩
 try simp (disch := first | omega | assumption | rfl) only [↓reduceIte, go_sem, Nat.reduceLT, Nat.reduceEqDiff, Nat.reduceSub]
 refine hK _ _ ?_; clear hK hgd; clear K; try clear gd
 repeat refine c_r ?_
 refine rt0 Tryz.ntmps66 ?_
 exact ⟨h1, hE1, hb⟩
end Go.Proofs.YtopbbjdembnfdaaGreat

namespace Go.Proofs.YtopbbjdembnfdaaGreat
open Go
set_option maxRecDepth 10000

end Go.Proofs.YtopbbjdembnfdaaGreat

namespace Go.Proofs.YtopbbjdembnfdaaGreat
open Go
set_option maxRecDepth 10000

theorem DSame_ok (w : World) (ca cb : List Value) (a b : DatL) (ha : DatAt w ca a) (hb : DatAt w cb b) (hoa : DatOk a) (hob : DatOk b) :
  Fn Tryz.prog 80 #[.agg ca.toArray, .agg cb.toArray] w (fun v w' => v = .bool (decide (cmpD a b = 0)) ∧ Ext w w') := by
 have ha' := ha
 have hb' := hb
 obtain ⟨nm, nu, tx, rw', rfl, _⟩ := ha.ex
 obtain ⟨nm2, nu2, tx2, rw2, rfl, _⟩ := hb.ex
 refine enter Tryz.func80 Tryz.ntmps80 rfl rfl ?_
 repeat refine c_r ?_
 refine rg0 ?_
 repeat refine c_r ?_
 rw [new_size]
 refine W_alloc2 ?_
 intro w1 hE1 hs1 hA hB
 have p := cells_all (n := 5) hA rfl
 have q := cells_all (n := 5) hB rfl
 refine rq ?_; intro gd K hgd hK
 try simp (disch := first | omega | assumption | rfl) only [↓reduceIte, go_sem, Nat.reduceLT, Nat.reduceEqDiff, Nat.reduceSub, p, q]
 refine Fn.mono (DCompare_ok _ _ _ a b (ha'.ext hE1) (hb'.ext hE1) hoa hob) ?_
 rintro _ w2 ⟨rfl, hE2⟩
 try simp (disch := first | omega | assumption | rfl) only [↓reduceIte, go_sem, Nat.reduceLT, Nat.reduceEqDiff, Nat.reduceSub]
 refine hK _ _ ?_; clear hK hgd; clear K; try clear gd
 repeat refine c_r ?_
 refine rt0 Tryz.ntmps80 ?_
 exact ⟨rfl, hE1.trans hE2⟩
end Go.Proofs.YtopbbjdembnfdaaGreat

namespace Go.Proofs.YtopbbjdembnfdaaGreat
open Go
set_option maxRecDepth 10000

section
variable {α : Type} {cf : α → α → Int} {jn : α → α → α}
def tst (O : List α) (k : Nat) (p : α → Bool) : Bool := match O[k]? with
 | some x => p x
 | Option.none => false
theorem tst_in {O : List α} {k : Nat} (h : k < O.length) (p : α → Bool) : tst O k p = p O[k] := by unfold tst; rw [List.getElem?_eq_getElem h]
theorem tst_out {O : List α} {k : Nat} (h : ¬ k < O.length) (p : α → Bool) : tst O k p = false := by unfold tst; rw [List.getElem?_eq_none (by omega)]

end

theorem rec_shape (w : World) : Shape 7 (RecAt w) := ⟨fun h => h.len, fun h => h.ones⟩
theorem RecAt.ttl {w : World} {cs : List Value} {r : RecL} (h : RecAt w cs r) : cs[1]? = some (v32 r.ttl) := by
 obtain ⟨ow, ds, rfl, _⟩ := h.ex
 rfl
end Go.Proofs.YtopbbjdembnfdaaGreat

namespace Go.Proofs.YtopbbjdembnfdaaGreat
open Go

def isL (o : Nm) (t : Int) (r : RecL) : Bool := decide (t = r.dat.ty) && decide (foldN o = foldN r.owner)
structure SetL where
 owner : Nm
 ty : Int
 ttl : Int
 data : List DatL
def mkS (r : RecL) (l : List RecL) : SetL := ⟨r.owner, r.dat.ty, l.foldl (fun t x => min t x.ttl) r.ttl, l.map RecL.dat⟩
def grpF : Nat → List RecL → List SetL
 | 0, _ => []
 | _, [] => []
 | n + 1, r :: l => mkS r ((r :: l).takeWhile (isL r.owner r.dat.ty)) :: grpF n ((r :: l).dropWhile (isL r.owner r.dat.ty))
def grp (l : List RecL) : List SetL := grpF l.length l

theorem isL_self (r : RecL) : isL r.owner r.dat.ty r = true := by simp [isL]
theorem grpF_more : ∀ (n m : Nat) (l : List RecL), l.length ≤ n → l.length ≤ m → grpF n l = grpF m l
 | 0, 0, _, _, _ => rfl
 | 0, m + 1, l, h, _ => by
  have : l = [] := List.length_eq_zero_iff.1 (by omega)
  subst this; rfl
 | n + 1, 0, l, _, h => by
  have : l = [] := List.length_eq_zero_iff.1 (by omega)
  subst this; rfl
 | n + 1, m + 1, [], _, _ => rfl
 | n + 1, m + 1, r :: l, h1, h2 => by
  simp only [List.length_cons] at h1 h2
  have hd : ((r :: l).dropWhile (isL r.owner r.dat.ty)).length ≤ l.length := by
   rw [List.dropWhile_cons_of_pos (isL_self r)]
   exact (List.dropWhile_sublist _).length_le
  simp only [grpF]
  rw [grpF_more n m _ (by omega) (by omega)]
theorem grp_cons (r : RecL) (l : List RecL) : grp (r :: l) = mkS r ((r :: l).takeWhile (isL r.owner r.dat.ty)) :: grp ((r :: l).dropWhile (isL r.owner r.dat.ty)) := by
 have hd : ((r :: l).dropWhile (isL r.owner r.dat.ty)).length ≤ l.length := by
  rw [List.dropWhile_cons_of_pos (isL_self r)]
  exact (List.dropWhile_sublist _).length_le
 unfold grp
 show grpF (l.length + 1) (r :: l) = _
 simp only [grpF]
 rw [grpF_more l.length ((r :: l).dropWhile (isL r.owner r.dat.ty)).length _ hd (Nat.le_refl _)]
theorem grp_nil : grp [] = [] := rfl
theorem take_while {α : Type} {p : α → Bool} {l : List α} {n : Nat} (hn : n ≤ l.length) (h : ∀ j (hj : j < l.length), j < n → p l[j] = true) (hs : ∀ h : n < l.length, p l[n] = false) : l.takeWhile p = l.take n ∧ l.dropWhile p = l.drop n := by
 have h1 : ∀ x ∈ l.take n, p x = true := fun x hx => by
  obtain ⟨j, hj, rfl⟩ := List.getElem_of_mem hx
  rw [List.getElem_take]
  simp at hj
  exact h j (by omega) (by omega)
 constructor
 ·conv => lhs; rw [← List.take_append_drop n l]
  rw [List.takeWhile_append_of_pos h1]
  by_cases hlt : n < l.length
  ·rw [List.drop_eq_getElem_cons hlt, List.takeWhile_cons_of_neg (by rw [hs hlt]; exact Bool.false_ne_true), List.append_nil]
  ·rw [List.drop_eq_nil_of_le (by omega)]; simp
 ·conv => lhs; rw [← List.take_append_drop n l]
  rw [List.dropWhile_append_of_pos h1]
  by_cases hlt : n < l.length
  ·rw [List.drop_eq_getElem_cons hlt, List.dropWhile_cons_of_neg (by rw [hs hlt]; exact Bool.false_ne_true)]
  ·rw [List.drop_eq_nil_of_le (by omega)]; simp

def ofC (R : List RecL) (o : Nm) (t : Int) : List RecL := canonL (R.filter (isL o t))

theorem foldC_all {β : Type} {cf : RecL → RecL → Int} {jn : RecL → RecL → RecL} {p : β → RecL} {Q : RecL → Prop} (hj : ∀ x r, Q x → Q r → cf x r = 0 → Q (jn x r)) : ∀ (l : List β) (acc : List RecL), (∀ x ∈ l, Q (p x)) → (∀ x ∈ acc, Q x) → ∀ x ∈ foldC cf jn p l acc, Q x
 | [], _, _, h => h
 | r :: l, acc, hl, ha => foldC_all hj l _ (fun x hx => hl x (List.mem_cons_of_mem _ hx)) (putC_all (fun x hx h0 => hj x (p r) hx (hl r (List.mem_cons_self ..)) h0) (hl r (List.mem_cons_self ..)) ha)
theorem canonL_all {Q : RecL → Prop} (hQ : ∀ a b, Q a → Q (minT a b)) {l : List RecL} (h : ∀ x ∈ l, Q x) : ∀ x ∈ canonL l, Q x :=
 foldC_all (fun x r hx _ _ => hQ x r hx) l [] h (fun x hx => absurd hx (by simp))
theorem canonL_len : ∀ (l : List RecL), (canonL l).length ≤ l.length := by
 have h1 : ∀ (r : RecL) (O : List RecL), (putC cmpRec minT r O).length ≤ O.length + 1 := fun r O => by
  induction O with
  | nil => simp [putC]
  | cons x O ih =>
   simp only [putC]
   split
   ·simp; omega
   ·split <;> simp
 have h2 : ∀ (l acc : List RecL), (foldC cmpRec minT (fun r => r) l acc).length ≤ acc.length + l.length := fun l => by
  induction l with
  | nil => intro acc; simp [foldC]
  | cons r l ih =>
   intro acc
   have := ih (putC cmpRec minT r acc)
   have := h1 r acc
   show (foldC cmpRec minT (fun r => r) l (putC cmpRec minT r acc)).length ≤ _
   simp only [List.length_cons]; omega
 intro l
 have h3 : (canonL l).length ≤ ([] : List RecL).length + l.length := h2 l []
 simpa using h3
theorem ofC_is {R : List RecL} {o : Nm} {t : Int} : ∀ x ∈ ofC R o t, isL o t x = true := by
 unfold ofC
 exact canonL_all (fun a b h => h) (fun x hx => (List.mem_filter.1 hx).2)
theorem foldC_sorted {l : List RecL} : ∀ (acc : List RecL), acc.Pairwise (fun a b => cmpRec a b < 0) → (foldC cmpRec minT (fun r => r) l acc).Pairwise (fun a b => cmpRec a b < 0) := by
 induction l with
 | nil => exact fun acc h => h
 | cons r l ih => exact fun acc h => ih _ (putC_sorted cpr_R join_R h)
abbrev SortR (R : List RecL) : Prop := R.Pairwise (fun a b => cmpRec a b < 0)
theorem canonL_sorted (l : List RecL) : SortR (canonL l) := foldC_sorted [] List.Pairwise.nil
theorem putC_app {r : RecL} {O : List RecL} (h : ∀ x ∈ O, cmpRec x r < 0) : putC cmpRec minT r O = O ++ [r] := by
 induction O with
 | nil => rfl
 | cons x O ih =>
  simp only [putC]
  rw [if_pos (h x (List.mem_cons_self ..)), ih (fun y hy => h y (List.mem_cons_of_mem _ hy))]; rfl
theorem canonL_id {R : List RecL} (h : SortR R) : canonL R = R := by
 have : ∀ (l acc : List RecL), SortR (acc ++ l) → foldC cmpRec minT (fun r => r) l acc = acc ++ l := fun l => by
  induction l with
  | nil => intro acc _; simp [foldC]
  | cons r l ih =>
   intro acc hs
   show foldC cmpRec minT (fun r => r) l (putC cmpRec minT r acc) = _
   have h1 := (List.pairwise_append.1 hs).2.2
   rw [putC_app (fun x hx => h1 x hx r (List.mem_cons_self ..)), ih (acc ++ [r]) (by simpa using hs)]
   simp
 exact this R [] h
theorem ofC_sorted {R : List RecL} (h : SortR R) (o : Nm) (t : Int) : ofC R o t = R.filter (isL o t) := canonL_id (h.filter _)

theorem grp_one {o : Nm} {t : Int} {r : RecL} {l : List RecL} (h : ∀ x ∈ r :: l, isL o t x = true) : grp (r :: l) = [mkS r (r :: l)] := by
 have hr := h r (List.mem_cons_self ..)
 simp only [isL, Bool.and_eq_true, decide_eq_true_eq] at hr
 have h2 : ∀ x ∈ r :: l, isL r.owner r.dat.ty x = true := fun x hx => by
  have := h x hx
  simp only [isL, Bool.and_eq_true, decide_eq_true_eq] at this ⊢
  exact ⟨hr.1.symm.trans this.1, hr.2.symm.trans this.2⟩
 obtain ⟨e1, e2⟩ := take_while (p := isL r.owner r.dat.ty) (l := r :: l) (n := (r :: l).length) (Nat.le_refl _) (fun j hj _ => h2 _ (List.getElem_mem hj)) (fun h => absurd h (by omega))
 rw [grp_cons, e1, e2]
 rw [List.take_length, List.drop_length]; rfl
end Go.Proofs.YtopbbjdembnfdaaGreat

namespace Go.Proofs.YtopbbjdembnfdaaGreat
open Go

def IterT {α : Type} (P : Program) (g : FuncId) (cap : Array Value) (W0 : World) (n0 : Nat) (C T : Nat → Prop) (own : Nat) (Pre : List α → α → Prop) (Full : List α → Prop) (enc : Nat → α → World → Array Value → Prop) : Prop :=
 ∀ (l : Nat) (J Jx : List α → World → Prop) (W : World), Ext W0 W → n0 ≤ W.heap.size →
  (∀ pre A B, J pre A → Keep (fun b => span W.heap.size own b ∨ T b) A B → J pre B) → (∀ pre A B, Jx pre A → Keep (fun b => span W.heap.size own b ∨ T b) A B → Jx pre B) →
  (∀ pre x A args, Pre pre x → J pre A → W.heap.size + own ≤ A.heap.size → KeepB n0 (fun b => C b ∨ T b) W A → enc W.heap.size x A args → Yld P l args A (fun v B =>
   (v = .bool true ∧ J (pre ++ [x]) B ∧ KeepB n0 C A B ∧ ∀ b, span W.heap.size own b → B.heap[b]? = A.heap[b]?) ∨ (v = .bool false ∧ Jx (pre ++ [x]) B))) →
  J [] W → Fn P g (#[.func (.yield l) #[] #[]] ++ cap) W (fun _ B => (∃ xs, Full xs ∧ J xs B) ∨ ∃ pre x, Pre pre x ∧ Jx (pre ++ [x]) B)

theorem W_rangeT {α : Type} {P : Program} {n : Nat} {f : Operand} {ps : Array Tmp} {assign body : Code} {Q : Post} {σ : Sto} {ds : List Deferred} {w : World}
  {g : FuncId} {cap : Array Value} {W0 : World} {n0 : Nat} {C T : Nat → Prop} {own : Nat} {Pre : List α → α → Prop} {Full : List α → Prop} {enc : Nat → α → World → Array Value → Prop}
  (hf : ev n σ f = .func (.func g) #[] cap) (hc : callable P g = true) (hit : IterT P g cap W0 n0 C T own Pre Full enc) (hW0 : Ext W0 w) (hn0 : n0 ≤ w.heap.size) (hCn : ∀ b, C b → b < w.heap.size) (hTn : ∀ b, T b → b < w.heap.size)
  (henc : ∀ x A args, enc (w.heap.size + 2) x A args → args.size = ps.size)
  (I : List α → World → Prop) (Ix : Code → List α → World → Prop)
  (hI : ∀ pre A B, I pre A → Keep (fun b => span w.heap.size (2 + own) b ∨ T b) A B → I pre B)
  (hIx : ∀ c pre A B, Ix c pre A → Keep (fun b => span w.heap.size (2 + own) b ∨ T b) A B → Ix c pre B)
  (h0 : I [] w)
  (hround : ∀ (l : Nat) (pre : List α) (x : α) (A : World) (args : Array Value), Pre pre x → w.heap.size + 2 + own ≤ A.heap.size → I pre A → enc (w.heap.size + 2) x A args →
   W P (some l) n assign (thenQ (fun σ1 ds1 A1 => ds1 = [] ∧ KeepB (w.heap.size + 2 + own) C A A1 ∧ ∀ A2, Keep (two w.heap.size) A1 A2 → W P (some l) n body (roundQ I Ix (w.heap.size + 2 + own) C (pre ++ [x]) A2) σ1 [] A2) (fun _ _ _ _ => False))
    (setPs σ (ps.zip args).toList) [] A)
  (hdone : ∀ xs w', Full xs → w.heap.size + 2 ≤ w'.heap.size → I xs w' → w'.heap[w.heap.size]? = some (.deferred (some [])) → Q .normal σ ({ target := .collected w.heap.size, args := #[] } :: ds) w')
  (hstop : ∀ c pre x w', w.heap.size + 2 ≤ w'.heap.size → Pre pre x → Ix c (pre ++ [x]) w' → w'.heap[w.heap.size]? = some (.deferred (some [])) →
   W P Option.none n c Q σ ({ target := .collected w.heap.size, args := #[] } :: ds) w') :
  W P Option.none n (.rangeFunc f ps assign body) Q σ ds w := by
 refine wpIn_rangeFunc ?_
 intro fn _
 generalize hrec : recOf fn (act n σ ds).tmps ps assign body w.heap.size = rec
 obtain ⟨W1, hW1⟩ : ∃ W1, (w.alloc (.deferred (some []))).alloc (.loop (rec .ready Option.none)) = W1 := ⟨_, rfl⟩
 have hsz1 : W1.heap.size = w.heap.size + 2 := by rw [← hW1]; simp
 have hL1 : W1.heap[w.heap.size + 1]? = some (.loop (rec .ready Option.none)) := by
  rw [← hW1]; have := World.alloc_heap_new (w.alloc (.deferred (some []))) (.loop (rec .ready Option.none)); rwa [World.size_alloc] at this
 have hK1 : W1.heap[w.heap.size]? = some (.deferred (some [])) := by
  rw [← hW1]; exact (RowKit.Below.heap_alloc _ _ _ (by simp)).trans (World.alloc_heap_new w _)
 have hE1 : Ext w W1 := by rw [← hW1]; exact (Ext.alloc w _).trans (Ext.alloc _ _)
 have hI1 : I [] W1 := hI _ _ _ h0 (hE1.mono (fun _ _ h => h.elim))
 have hl2 : two w.heap.size (w.heap.size + 1) := .inr rfl
 have hl2' : span w.heap.size (2 + own) (w.heap.size + 1) := by unfold span; omega
 refine ⟨w.heap.size + 1, [{ target := .collected w.heap.size, args := #[] }], W1, { target := .fn (.func g) cap, args := #[.func (.yield (w.heap.size + 1)) #[] #[]] }, W1, g,
  #[.func (.yield (w.heap.size + 1)) #[] #[]] ++ cap, W1, ?_, ?_, ?_, ?_, fw_depth, ?_⟩
 ·rw [← hW1, ← hrec]; exact run_enterLoop_outer _ _ _ _ _
 ·simp only [resolve, act_eval, hf]
  simp [Deferred.ofValue, ev]
 ·intro f' hf'; trivial
 ·simp only [invoke]; exact run_callFunc hc
 ·-- the iterator's contract
  have hsp : ∀ {n : Nat} b, b < n → (span W1.heap.size own b ∨ T b) → (span w.heap.size (2 + own) b ∨ T b) := fun b _ h => h.imp (fun h => by unfold span at *; omega) id
  have hno : ∀ b, two w.heap.size b → ¬ (span W1.heap.size own b ∨ T b) := fun b hb h => by
   rcases h with h | h
   ·unfold span at h; unfold two at hb; omega
   ·have := hTn _ h; unfold two at hb; omega
  have hCl : ∀ b, two w.heap.size b → ¬ C b := fun b hb hcb => by have := hCn b hcb; rcases hb with rfl | rfl <;> omega
  refine calls_round (CallsIn.mono (hit (w.heap.size + 1)
   (fun pre B => I pre B ∧ w.heap.size + 2 ≤ B.heap.size ∧ B.heap[w.heap.size + 1]? = some (.loop (rec .ready Option.none)) ∧ B.heap[w.heap.size]? = some (.deferred (some [])))
   (fun pre B => ∃ c, Ix c pre B ∧ w.heap.size + 2 ≤ B.heap.size ∧ B.heap[w.heap.size + 1]? = some (.loop (rec .done (some c))) ∧ B.heap[w.heap.size]? = some (.deferred (some [])))
   W1 (hW0.trans hE1) (by omega) ?_ ?_ ?_ ⟨hI1, by omega, hL1, hK1⟩) ?_)
  ·rintro pre A B ⟨hi, hs, hl, hk⟩ hAB
   exact ⟨hI _ _ _ hi (hAB.mono hsp), Nat.le_trans hs hAB.size, (hAB.block _ (by omega) (hno _ hl2)).trans hl, (hAB.block _ (by omega) (hno _ (.inl rfl))).trans hk⟩
  ·rintro pre A B ⟨c, hi, hs, hl, hk⟩ hAB
   exact ⟨c, hIx _ _ _ _ hi (hAB.mono hsp), Nat.le_trans hs hAB.size, (hAB.block _ (by omega) (hno _ hl2)).trans hl, (hAB.block _ (by omega) (hno _ (.inl rfl))).trans hk⟩
  ·-- one round
   rintro pre x A args hxs ⟨hi, hs, hl, hk⟩ hsA _ hx
   rw [hsz1] at hx
   have hy := run_yield (P := P) (args := args) hl (by rw [← hrec]; exact henc x A args hx)
   unfold Yld callV
   dsimp only
   rw [show (#[] ++ args : Array Value) = args from by simp]
   rw [hy, ← hrec]
   dsimp only [recOf, opR]
   refine round_round (r := Option.none) (n := 0) (roundIn_of_wpIn (F := fw Option.none) (n := 0) trivial ?_)
   have hin : (fw Option.none).inRound (w.heap.size + 1) = fw (some (w.heap.size + 1)) := rfl
   rw [hin]
   have hfold : (ps.zip args).foldl (fun t (x : Tmp × Value) => t.setIfInBounds x.1 x.2) (act n σ ds).tmps = (act n (setPs σ (ps.zip args).toList) []).tmps := by
    rw [← Array.foldl_toList]
    exact foldl_setPs n ds _ σ
   have hst : ({ tmps := (ps.zip args).foldl (fun t (x : Tmp × Value) => t.setIfInBounds x.1 x.2) (act n σ ds).tmps, defers := [] } : Act) = act n (setPs σ (ps.zip args).toList) [] := by
    rw [hfold]; rfl
   have hr := hround (w.heap.size + 1) pre x A args hxs (by omega) hi hx
   unfold W at hr
   rw [← hst] at hr
   refine wpIn_mono hr ?_
   rintro e a A1 ⟨σ1, ds1, rfl, hq⟩
   cases e with
   | normal =>
    obtain ⟨rfl, hA1, hbody⟩ := hq
    have hlA1 : A1.heap[w.heap.size + 1]? = some (.loop (rec .ready Option.none)) := (hA1.block _ (by omega) (hCl _ hl2)).trans hl
    have hkA1 : A1.heap[w.heap.size]? = some (.deferred (some [])) := (hA1.block _ (by omega) (hCl _ (.inl rfl))).trans hk
    have hlt1 : w.heap.size + 1 < A1.heap.size := (Array.getElem?_eq_some_iff.1 hlA1).1
    refine ⟨_, run_beginRound hlA1 (by rw [← hrec]; rfl), ?_⟩
    have hb := hbody _ (keep_put (w := A1) (r := w.heap.size + 1) (o := .loop { rec .ready Option.none with state := .busy }) hl2)
    refine wpIn_mono hb ?_
    have hlA2 : (A1.putObj (w.heap.size + 1) (.loop { rec .ready Option.none with state := .busy })).heap[w.heap.size + 1]? = some (.loop { rec .ready Option.none with state := .busy }) := World.putObj_heap_same hlt1
    have hkA2 : (A1.putObj (w.heap.size + 1) (.loop { rec .ready Option.none with state := .busy })).heap[w.heap.size]? = some (.deferred (some [])) := (World.putObj_heap_other (by omega)).trans hkA1
    have fin : ∀ (jump : Option Code) (B : World), KeepB (w.heap.size + 2 + own) C (A1.putObj (w.heap.size + 1) (.loop { rec .ready Option.none with state := .busy })) B →
      (Instr.endRound (w.heap.size + 1) jump).run P B = .ok (.bool jump.isNone) (B.putObj (w.heap.size + 1) (.loop (rec (if jump.isNone then .ready else .done) jump))) ∧
      w.heap.size + 2 ≤ (B.putObj (w.heap.size + 1) (.loop (rec (if jump.isNone then .ready else .done) jump))).heap.size ∧
      (B.putObj (w.heap.size + 1) (.loop (rec (if jump.isNone then .ready else .done) jump))).heap[w.heap.size + 1]? = some (.loop (rec (if jump.isNone then .ready else .done) jump)) ∧
      (B.putObj (w.heap.size + 1) (.loop (rec (if jump.isNone then .ready else .done) jump))).heap[w.heap.size]? = some (.deferred (some [])) ∧
      KeepB n0 C A (B.putObj (w.heap.size + 1) (.loop (rec (if jump.isNone then .ready else .done) jump))) ∧
      ∀ b, span W1.heap.size own b → (B.putObj (w.heap.size + 1) (.loop (rec (if jump.isNone then .ready else .done) jump))).heap[b]? = A.heap[b]? := by
     intro jump B hB
     have hlB := (hB.block _ (by omega) (hCl _ hl2)).trans hlA2
     have hkB := (hB.block _ (by omega) (hCl _ (.inl rfl))).trans hkA2
     have hltB : w.heap.size + 1 < B.heap.size := (Array.getElem?_eq_some_iff.1 hlB).1
     refine ⟨?_, by simp; omega, World.putObj_heap_same hltB, (World.putObj_heap_other (by omega)).trans hkB, ?_, ?_⟩
     ·have := run_endRound (P := P) jump hlB
      rw [← hrec] at this ⊢
      exact this
     ·refine (hA1.mono (by omega) (fun _ _ h => h)).trans (KeepB.trans ?_ ((hB.mono (by omega) (fun _ _ h => h)).trans ?_))
      ·exact (keep_put (S := two w.heap.size) hl2).toB (by omega) (fun i hi hs => by rcases hs with rfl | rfl <;> omega)
      ·exact (keep_put (S := two w.heap.size) hl2).toB (by omega) (fun i hi hs => by rcases hs with rfl | rfl <;> omega)
     ·intro b hb
      unfold span at hb
      have hCb : ¬ C b := fun h => by have := hCn b h; omega
      exact (World.putObj_heap_other (by omega)).trans ((hB.block b (by omega) hCb).trans ((World.putObj_heap_other (by omega)).trans (hA1.block b (by omega) hCb)))
    rintro e a B ⟨σ2, ds2, rfl, hq⟩
    cases e with
    | normal =>
     obtain ⟨hi', hB⟩ := hq
     obtain ⟨h1, h2, h3, h4, h5, h6⟩ := fin Option.none B hB
     exact ⟨_, _, h1, _, rfl, .inl ⟨rfl, ⟨hI _ _ _ hi' (keep_put (.inl hl2')), h2, h3.trans (by rw [← hrec]; rfl), h4⟩, h5, h6⟩⟩
    | ret =>
     obtain ⟨hi', hB⟩ := hq
     obtain ⟨h1, h2, h3, h4, h5, _⟩ := fin (some .ret) B hB
     exact ⟨_, _, h1, _, rfl, .inr ⟨rfl, _, hIx _ _ _ _ hi' (keep_put (.inl hl2')), h2, h3.trans (by rw [← hrec]; rfl), h4⟩⟩
    | exit id =>
     obtain ⟨hi', hB⟩ := hq
     obtain ⟨h1, h2, h3, h4, h5, _⟩ := fin (some (.exit id)) B hB
     exact ⟨_, _, h1, _, rfl, .inr ⟨rfl, _, hIx _ _ _ _ hi' (keep_put (.inl hl2')), h2, h3.trans (by rw [← hrec]; rfl), h4⟩⟩
    | goto t =>
     obtain ⟨hi', hB⟩ := hq
     obtain ⟨h1, h2, h3, h4, h5, _⟩ := fin (some (.goto t)) B hB
     exact ⟨_, _, h1, _, rfl, .inr ⟨rfl, _, hIx _ _ _ _ hi' (keep_put (.inl hl2')), h2, h3.trans (by rw [← hrec]; rfl), h4⟩⟩
    | panic c => exact hq.elim
    | outgrown => exact hq.elim
   | ret => exact hq.elim
   | exit id => exact hq.elim
   | goto t => exact hq.elim
   | panic c => exact hq.elim
   | outgrown => exact hq.elim
  ·rintro e B ⟨v, rfl, h⟩
   rcases h with ⟨xs, hfull, hi, hs, hl, hk⟩ | ⟨pre, x, hxs, c, hi, hs, hl, hk⟩
   ·have hend := run_endLoop (P := P) hl (by rw [← hrec]; simp [recOf])
    have hp : (rec LoopState.ready Option.none).pending = Option.none := by rw [← hrec]; rfl
    rw [hp] at hend
    refine ⟨Option.none, _, hend, ?_⟩
    exact ⟨σ, _, rfl, hdone xs _ hfull (by simp; omega) (hI _ _ _ hi (keep_put (.inl hl2'))) ((World.putObj_heap_other (by omega)).trans hk)⟩
   ·have hend := run_endLoop (P := P) hl (by rw [← hrec]; simp [recOf])
    have hp : (rec LoopState.done (some c)).pending = some c := by rw [← hrec]; rfl
    rw [hp] at hend
    refine ⟨some c, _, hend, ?_⟩
    exact hstop c pre x _ (by simp; omega) hxs (hIx _ _ _ _ hi (keep_put (.inl hl2'))) ((World.putObj_heap_other (by omega)).trans hk)

end Go.Proofs.YtopbbjdembnfdaaGreat

namespace Go.Proofs.YtopbbjdembnfdaaGreat.P_cd
open Go Go.Proofs.YtopbbjdembnfdaaGreat
set_option maxRecDepth 10000

theorem Clip_ok {w : World} {a : Option Addr} {n c : Nat} (hc : n ≤ c) : Fn Tryz.prog 180 #[.slice a n c] w (fun u w' => u = .slice a n n ∧ w' = w) := by
 refine enter Tryz.func180 Tryz.ntmps180 rfl rfl ?_
 repeat refine c_r ?_
 refine rg0 ?_
 repeat refine c_r ?_
 refine rq ?_; intro gd K hgd hK
 try simp (disch := first | omega | assumption | rfl) only [↓reduceIte, go_sem, Nat.reduceLT, Nat.reduceEqDiff, Nat.reduceSub]
 have hcl : slD Tryz.prog (some (TypeDesc.slice 59)) (Value.slice a n c) Option.none (some (Value.int IntKind.i64 ↑n)) (some (Value.int IntKind.i64 ↑n)) = some (.slice a n n) := s_clip hc (by rfl)
 rw [hcl]
 try simp (disch := first | omega | assumption | rfl) only [↓reduceIte, go_sem, Nat.reduceLT, Nat.reduceEqDiff, Nat.reduceSub]
 refine hK _ _ ?_; clear hK hgd; clear K; try clear gd
 repeat refine c_r ?_
 refine rt0 Tryz.ntmps180 ?_
 exact ⟨rfl, rfl⟩
end Go.Proofs.YtopbbjdembnfdaaGreat.P_cd

namespace Go.Proofs.YtopbbjdembnfdaaGreat
open Go
set_option maxRecDepth 10000

theorem is_ok (w : World) (ow tl dv : Value) (o : Nm) (t : Int) (cr : List Value) (r : RecL) (ho : Row w ow (o.map vs)) (hr : RecAt w cr r) (hlo : LB o) (hlen : o.length ≤ 1000000000000000) (hok : RecOk r) :
  Fn Tryz.prog 175 #[.agg #[ow, vi t, tl, dv], .agg cr.toArray] w (fun v w' => v = .bool (isL o t r) ∧ Ext w w') := by
 obtain ⟨ow2, ds, rfl, a1, a2⟩ := hr.ex
 obtain ⟨nm, nu, tx, rw', rfl, _⟩ := a2.ex
 refine enter Tryz.func175 Tryz.ntmps175 rfl rfl ?_
 repeat refine c_r ?_
 refine rg0 ?_
 repeat refine c_r ?_
 rw [new_size]
 refine W_alloc2 ?_
 intro w1 hE1 hs1 hA hB
 have p0 : cellO w1 (some ⟨w.heap.size, 0, Option.none⟩) = some ow := cellO_at hA rfl
 have p1 : cellO w1 (some ⟨w.heap.size, 1, Option.none⟩) = some (vi t) := cellO_at hA rfl
 have q0 : cellO w1 (some ⟨w.heap.size + 1, 0, Option.none⟩) = some ow2 := cellO_at hB rfl
 have q2 : cellO w1 (some ⟨w.heap.size + 1, 2, Option.none⟩) = some (vi r.dat.ty) := cellO_at hB rfl
 by_cases ht : t = r.dat.ty
 ·refine rq ?_; intro gd K hgd hK
  have hg6 : ∀ n σ b, wantV gd n σ (some (6, b)) = boolIs (ev n σ (.tmp 11)) b := (fun n σ b => by rw [wantV_some, show gd 6 = some 11 from (by rw [hgd]; rfl)]; rfl)
  try simp (disch := first | omega | assumption | rfl) only [↓reduceIte, go_sem, Nat.reduceLT, Nat.reduceEqDiff, Nat.reduceSub, p0, p1, q0, q2, Nat.add_zero, decide_eq_true ht, ↓hg6]
  refine Fn.mono (Same_ok _ _ _ _ _ (ho.ext hE1) (a1.ext hE1) hlo hok.lb (by omega) (by have := hok.len; omega)) ?_
  rintro _ w2 ⟨rfl, hE2⟩
  try simp (disch := first | omega | assumption | rfl) only [↓reduceIte, go_sem, Nat.reduceLT, Nat.reduceEqDiff, Nat.reduceSub]
  refine hK _ _ ?_; clear hK hgd; clear K; try clear gd
  repeat refine c_r ?_
  refine rt0 Tryz.ntmps175 ?_
  refine ⟨?_, hE1.trans hE2⟩
  unfold isL
  rw [decide_eq_true ht, Bool.true_and]
 ·refine rq ?_; intro gd K hgd hK
  have hg6 : ∀ n σ b, wantV gd n σ (some (6, b)) = boolIs (ev n σ (.tmp 11)) b := (fun n σ b => by rw [wantV_some, show gd 6 = some 11 from (by rw [hgd]; rfl)]; rfl)
  try simp (disch := first | omega | assumption | rfl) only [↓reduceIte, go_sem, Nat.reduceLT, Nat.reduceEqDiff, Nat.reduceSub, p0, p1, q0, q2, Nat.add_zero, decide_eq_false ht, ↓hg6]
  refine hK _ _ ?_; clear hK hgd; clear K; try clear gd
  repeat refine c_r ?_
  refine rt0 Tryz.ntmps175 ?_
  refine ⟨?_, hE1⟩
  unfold isL
  rw [decide_eq_false ht, Bool.false_and]
end Go.Proofs.YtopbbjdembnfdaaGreat

namespace Go.Proofs.YtopbbjdembnfdaaGreat
open Go
set_option maxRecDepth 10000

structure SetAt (w0 : World) (B : Nat) (w : World) (cs : List Value) (s : SetL) : Prop where
 ex : ∃ ow dv, cs = [ow, vi s.ty, v32 s.ttl, dv] ∧ Row w0 ow (s.owner.map vs) ∧ Rows 5 (DatAt w0) w dv s.data ∧ BlkB B w dv
def encS (w0 : World) (B : Nat) (s : SetL) (A : World) (args : Array Value) : Prop := ∃ cs, args = #[.agg cs.toArray] ∧ SetAt w0 B A cs s

theorem dat_shape (w : World) : Shape 5 (DatAt w) := by
 refine ⟨fun h => ?_, fun h => ?_⟩
 ·obtain ⟨nm, nu, tx, rw', rfl, _⟩ := h.ex; rfl
 ·obtain ⟨nm, nu, tx, rw', rfl, ⟨_, ⟨o3, o4, rfl, _⟩, _⟩, ⟨o5, o6, rfl, _⟩, ⟨o7, o8, rfl, _⟩, ⟨o9, o10, rfl, _⟩⟩ := h.ex
  intro q hq
  simp at hq
  rcases hq with rfl | rfl | rfl | rfl | rfl <;> rfl

theorem RecAt.cells {w0 : World} {cs : List Value} {r : RecL} (h : RecAt w0 cs r) : ∃ ow ds, cs = [ow, v32 r.ttl] ++ ds ∧ Row w0 ow (r.owner.map vs) ∧ DatAt w0 ds r.dat ∧ cs[0]? = some ow ∧ cs[1]? = some (v32 r.ttl) ∧ cs[2]? = some (vi r.dat.ty) ∧ cs.drop 2 = ds := by
 obtain ⟨ow, ds, rfl, h1, h2⟩ := h.ex
 obtain ⟨nm, nu, tx, rw', rfl, _⟩ := h2.ex
 exact ⟨ow, _, rfl, h1, h2, rfl, rfl, rfl, rfl⟩

theorem setsIt {w0 W0 : World} {C : Nat → Prop} {bl : Nat} {lv : Value} {R : List RecL} (hE0 : Ext w0 W0) (hb : W0.heap[bl]? = some (.cells #[lv] 24 (0, 0))) (hl : Rows 7 (RecAt w0) W0 lv R) (hbC : ¬ C bl)
  (hC0 : ∀ b, (C b ∨ b = bl) → w0.heap.size ≤ b) (hlC : ∀ a n c, lv = .slice (some a) n c → ¬ C a.block ∧ a.block ≠ bl ∧ a.block < W0.heap.size) (hok : ∀ r ∈ R, RecOk r) (hlen : R.length ≤ 1000000000) :
  IterT Tryz.prog 209 #[.pointer (some ⟨bl, 0, Option.none⟩)] W0 W0.heap.size C (fun b => b = bl) 0 (fun pre x => ∃ suf, grp R = pre ++ x :: suf) (fun l => l = grp R) (encS w0) := by
 intro lp J Jx W hW hnW hJ hJx hY h0
 have hbn : bl < W0.heap.size := (Array.getElem?_eq_some_iff.1 hb).1
 refine enter Tryz.func209 Tryz.ntmps209 rfl rfl ?_
 repeat refine c_r ?_
 refine W_loop (fun m σ ds v => ds = [] ∧ ∃ (pre : List SetL) (p : Nat) (lv' : Value), p + m = R.length ∧ grp R = pre ++ grp (R.drop p) ∧ σ 0 = .func (.yield lp) #[] #[] ∧ σ 1 = .pointer (some ⟨bl, 0, Option.none⟩) ∧
  v.heap[bl]? = some (.cells #[lv'] 24 (0, 0)) ∧ Rows 7 (RecAt w0) v lv' (R.drop p) ∧ (∀ a n c, lv' = .slice (some a) n c → ¬ C a.block ∧ a.block ≠ bl ∧ a.block < W0.heap.size) ∧ J pre v ∧ KeepB W0.heap.size (fun b => C b ∨ b = bl) W v ∧ Ext w0 v) R.length ?_ ?_
 ·exact ⟨rfl, [], 0, lv, by omega, rfl, vr0, vq0, hW.at hb, hl.ext hW, hlC, h0, KeepB.refl _ _ _, hE0.trans hW⟩
 rintro m σ ds v ⟨rfl, pre, p, lv', hpm, hgr, hs0, hs1, hbx, hrow, hlC', hj, hKB, hEv⟩
 obtain ⟨aL, cL, rfl, hcL, hgL⟩ := hrow.open
 obtain ⟨D, hD⟩ : ∃ D, R.drop p = D := ⟨_, rfl⟩
 have hDl : D.length = R.length - p := by rw [← hD]; simp
 have hDok : ∀ r ∈ D, RecOk r := fun r hr => hok r (List.drop_subset p R (hD ▸ hr))
 rw [hD] at hgr hbx hrow hlC' hcL
 simp only [hD] at hgL
 have hbc : cellO v (some ⟨bl, 0, Option.none⟩) = some (.slice aL D.length cL) := cellO_at hbx rfl
 repeat refine c_r ?_
 refine rg3 hs0 hs1 hbc ?_
 repeat refine c_r ?_
 refine wc0 ?_ ?_
 ·intro hlt
  simp only [decide_eq_true_eq] at hlt
  have hD0 : 0 < D.length := by omega
  obtain ⟨r, hr⟩ : ∃ r, D[0] = r := ⟨_, rfl⟩
  obtain ⟨c0, hc0, hR0⟩ := hgL 0 hD0
  rw [hr] at hR0
  obtain ⟨ow0, ds0, hcs0, o1, o2, g0, g1, g2, _⟩ := hR0.cells
  obtain ⟨xL, rfl⟩ := Option.isSome_iff_exists.1 (cellsO_some hc0)
  rw [Nat.zero_mul, adr_zero] at hc0
  obtain ⟨xd, hxd⟩ : ∃ xd, adr (some xL) 2 = some xd := ⟨_, rfl⟩
  have cell : ∀ {j : Nat} {u : Value} (_ : c0[j]? = some u) {x : World} (_ : Ext v x), cellO x (adr (some xL) j) = some u := fun {j u} hj {x} hx => by
   obtain ⟨hj1, hj2⟩ := List.getElem?_eq_some_iff.1 hj
   have := cellsO_get (cellsO_ext hx hc0) hj1
   rw [hj2] at this; exact this
  have hz : (0 : Int) ≤ (0 : Int) := by omega
  repeat refine c_r ?_
  refine W_drw (fun i => i == 15) [(0, true), (1, true), (2, true), (3, true), (4, true), (5, true), (6, true), (7, true), (8, true), (9, true), (10, true), (11, true), (12, true), (13, true), (14, false), (15, false)] NoS mixed (by kernel_rfl) ?_; intro gd K x hgd hx hxe hK; clear hxe
  have hbc1 := cellO_ext hx hbc
  have e0 := cell g0 hx
  have e1 := cell g1 hx
  have e2 := cell g2 hx
  rw [adr_zero] at e0
  rw [hxd] at e2
  simp (disch := first | omega | assumption | rfl) only [↓reduceIte, go_sem, Nat.reduceLT, Nat.reduceEqDiff, Nat.reduceSub, hs0, hs1, hbc1, hlt, hz, hxd, e0, e1, e2, Int.toNat_zero, Nat.zero_mul, adr_zero]
  obtain ⟨ao, no, co, rfl⟩ : ∃ ao no co, ow0 = .slice ao no co := by
   obtain ⟨a, c, h, _⟩ := o1
   exact ⟨_, _, _, h⟩
  refine ⟨by kernel_rfl, ?_⟩
  rw [show bdV Tryz.prog 209 [(0, .slice ao no co), (1, vi r.dat.ty), (2, v32 r.ttl)] = some (.agg #[.slice ao no co, vi r.dat.ty, v32 r.ttl, .slice Option.none 0 0]) from by kernel_rfl]
  simp (disch := first | omega | assumption | rfl) only [↓reduceIte, go_sem, Nat.reduceLT, Nat.reduceEqDiff, Nat.reduceSub]
  refine ⟨.inr (Ext.alloc x _), ?_⟩
  have hB3 := new_block x (.cells #[.slice Option.none 0 0, vi 0, v32 0, .slice Option.none 0 0] 209 (0, 0))
  have hE3 := Ext.alloc x (.cells #[.slice Option.none 0 0, vi 0, v32 0, .slice Option.none 0 0] 209 (0, 0))
  have hs3 := new_size x (.cells #[.slice Option.none 0 0, vi 0, v32 0, .slice Option.none 0 0] 209 (0, 0))
  revert hB3 hE3 hs3
  generalize x.alloc (.cells #[.slice Option.none 0 0, vi 0, v32 0, .slice Option.none 0 0] 209 (0, 0)) = x1
  intro hB3 hE3 hs3
  refine sv_all (P := Tryz.prog) (t := 209) (l := [.slice ao no co, vi r.dat.ty, v32 r.ttl, .slice Option.none 0 0]) hB3 rfl (fun v h => by simp at h; rcases h with rfl | rfl | rfl | rfl <;> rfl) rfl rfl ?_
  intro x2 hs4 hB4 hk4
  refine ⟨.inl rfl, ?_⟩
  simp (disch := first | omega | assumption | rfl) only [↓reduceIte, go_sem, Nat.reduceLT, Nat.reduceEqDiff, Nat.reduceSub]
  refine hK _ _ ?_; clear hK hgd; clear K; try clear gd
  have hE2 : Ext v x2 := Keep.to_ext (hx.trans hE3) rfl (fun b hb => by have := hx.size; omega) hk4
  have hsx := hx.size
  have hx2 : x2.heap.size = x.heap.size + 1 := by omega
  obtain ⟨b3, hb3⟩ : ∃ b3, x.heap.size = b3 := ⟨_, rfl⟩
  rw [hb3] at hB4 hsx hx2 ⊢
  clear hk4 hs4 hB3 hE3 hs3
  clear e0 e1 e2 hbc1 hx hb3
  clear x1 x
  repeat refine c_r ?_
  refine rg0 ?_
  repeat refine c_r ?_
  refine W_loop (fun m2 σ ds v3 => ds = [] ∧ ∃ (n : Nat) (tl : Int) (dv : Value), n + m2 = D.length ∧ σ 4 = vi n ∧ σ 0 = .func (.yield lp) #[] #[] ∧ σ 1 = .pointer (some ⟨bl, 0, Option.none⟩) ∧ σ 3 = .pointer (some ⟨b3, 0, Option.none⟩) ∧
   v3.heap[b3]? = some (.cells [.slice ao no co, vi r.dat.ty, v32 tl, dv].toArray 209 (0, 0)) ∧ tl = (D.take n).foldl (fun t x => min t x.ttl) r.ttl ∧ Owns 5 (DatAt w0) x2.heap.size v3 59 dv ((D.take n).map RecL.dat) ∧ Ext v v3 ∧ x2.heap.size ≤ v3.heap.size ∧
   ∀ j (h : j < D.length), j < n → isL r.owner r.dat.ty D[j] = true) D.length ?_ ?_
  ·exact ⟨rfl, 0, r.ttl, .slice Option.none 0 0, by omega, vr0, (vq1 hs0), (vq1 hs1), vq0, hB4, rfl, Owns.nil _ _ _ _ _, hE2, Nat.le_refl _, fun j h hj => absurd hj (by omega)⟩
  rintro m2 σ ds v3 ⟨rfl, n, tl, dv, hnm, t4, t0, t1, t3, hB, htl, hdv, hE3, hs3, hlow⟩
  repeat refine c_r ?_
  have hcur : ∀ {x : World}, Ext v x → cellO x (some ⟨bl, 0, Option.none⟩) = some (.slice (some xL) D.length cL) := fun hx => cellO_ext hx hbc
  have hb3v : v.heap.size ≤ b3 := hsx
  have hEw3 := hEv.trans hE3
  refine W_mono (Q := fun e σ' ds' v' => e = .normal ∧ ds' = [] ∧ σ' 4 = vi n ∧ σ' 0 = .func (.yield lp) #[] #[] ∧ σ' 1 = .pointer (some ⟨bl, 0, Option.none⟩) ∧ σ' 3 = .pointer (some ⟨b3, 0, Option.none⟩) ∧ Ext v3 v' ∧ σ' 33 = .bool (tst D n (isL r.owner r.dat.ty))) ?_ ?_
  ·by_cases hk : n < D.length
   ·rw [tst_in hk]
    obtain ⟨cn, hcn, hRn⟩ := hgL n hk
    have hkd : decide ((n : Int) < (D.length : Int)) = true := decide_eq_true (by omega)
    have hk0 : (0 : Int) ≤ (n : Int) := by omega
    have hk1 : (n : Int) < (D.length : Int) := by omega
    refine W_drw (fun _ => false) [(0, true), (1, true), (2, true), (3, true), (4, true), (5, true), (6, true), (7, true), (8, true), (9, true), (10, false), (11, true)] NoS mixed (by kernel_rfl) ?_; intro gd K x hgd hx hxe hK; clear hxe
    have hg4 : ∀ n σ b, wantV gd n σ (some (4, b)) = boolIs (ev n σ (.tmp 26)) b := (fun n σ b => by rw [wantV_some, show gd 4 = some 26 from (by rw [hgd]; rfl)]; rfl)
    have d1 := cellsO_ext (hE3.trans hx) hcn
    have d2 := hcur (hE3.trans hx)
    have d3 := sv_cells (n := 4) (Ext.at hx hB) rfl
    simp (disch := first | omega | assumption | rfl) only [↓reduceIte, go_sem, Nat.reduceLT, Nat.reduceEqDiff, Nat.reduceSub, t4, t0, t1, t3, hkd, decide_true, hk0, hk1, d1, d2, d3, ↓hg4]
    refine Fn.mono (is_ok x _ _ _ r.owner r.dat.ty cn D[n] (o1.ext (hEw3.trans hx)) (hRn.ext (hEw3.trans hx)) (hr ▸ (hDok _ (List.getElem_mem hD0)).lb) (hr ▸ (hDok _ (List.getElem_mem hD0)).len) (hDok _ (List.getElem_mem hk))) ?_
    rintro _ y ⟨rfl, hy⟩
    refine ⟨.inr hy, ?_⟩
    simp (disch := first | omega | assumption | rfl) only [↓reduceIte, go_sem, Nat.reduceLT, Nat.reduceEqDiff, Nat.reduceSub, ↓hg4]
    refine hK _ _ ?_; clear hK hgd; clear K; try clear gd
    exact ⟨rfl, rfl, (vq1 t4), (vq1 t0), by simp only [↓reduceIte, go_sem, Nat.reduceLT, Nat.reduceEqDiff, Nat.reduceSub, t1], (vq1 t3), hx.trans hy, vq0⟩
   ·rw [tst_out hk]
    have hkd : decide ((n : Int) < (D.length : Int)) = false := decide_eq_false (by omega)
    refine W_drw (fun _ => false) [(0, true), (1, true), (2, true), (3, true), (4, true), (5, true), (6, true), (7, true), (8, true), (9, true), (10, false), (11, true)] NoS mixed (by kernel_rfl) ?_; intro gd K x hgd hx hxe hK; clear hxe
    have hg4 : ∀ n σ b, wantV gd n σ (some (4, b)) = boolIs (ev n σ (.tmp 26)) b := (fun n σ b => by rw [wantV_some, show gd 4 = some 26 from (by rw [hgd]; rfl)]; rfl)
    have d2 := hcur (hE3.trans hx)
    simp (disch := first | omega | assumption | rfl) only [↓reduceIte, go_sem, Nat.reduceLT, Nat.reduceEqDiff, Nat.reduceSub, t4, t0, t1, t3, hkd, d2, ↓hg4]
    refine hK _ _ ?_; clear hK hgd; clear K; try clear gd
    exact ⟨rfl, rfl, (vq1 t4), (vq1 t0), by simp only [↓reduceIte, go_sem, Nat.reduceLT, Nat.reduceEqDiff, Nat.reduceSub, t1], (vq1 t3), hx, vq0⟩
  clear t4 t0 t1 t3
  rintro _ σ1 _ v4 ⟨rfl, rfl, t4, t0, t1, t3, hE4, t33⟩
  have hB4' := hE4.at hB
  have hdv4 := hdv.ext hE4
  have hE34 := hE3.trans hE4
  have hs34 : x2.heap.size ≤ v4.heap.size := Nat.le_trans hs3 hE4.size
  clear hB hdv hEw3
  repeat refine c_r ?_
  refine W_cond (t := tst D n (isL r.owner r.dat.ty)) ((vq1 t33)) ?_ ?_
  ·intro ht
   have hk : n < D.length := Classical.byContradiction fun h => by rw [tst_out h] at ht; cases ht
   rw [tst_in hk] at ht
   have hk0 : (0 : Int) ≤ (n : Int) := by omega
   have hk1 : (n : Int) < (D.length : Int) := by omega
   have hk1' : (n : Int) + 1 = ((n + 1 : Nat) : Int) := by push_cast; rfl
   obtain ⟨cn, hcn, hRn⟩ := hgL n hk
   obtain ⟨_, dsn, _, _, n2, _, gn1, _, gnd⟩ := hRn.cells
   obtain ⟨xn, hxn⟩ : ∃ xn, adr (some xL) (n * 7) = some xn := ⟨_, rfl⟩
   rw [hxn] at hcn
   have f1 : cellO v (adr (some xn) 1) = some (v32 D[n].ttl) := by
    obtain ⟨hj1, hj2⟩ := List.getElem?_eq_some_iff.1 gn1
    have := cellsO_get hcn hj1
    rw [hj2] at this; exact this
   have f2 : cellsO v (adr (some xn) 2) 5 = some dsn := by
    have := cells_drop (m := 2) (k := 5) hcn
    rwa [gnd] at this
   repeat refine c_r ?_
   refine W_drw (fun i => i == 9) [(0, true), (1, true), (2, true), (3, true), (4, true), (5, true), (6, true), (7, false), (8, true), (9, false)] NoS mixed (by kernel_rfl) ?_; intro gd K x hgd hx hxe hK; clear hxe
   have d1 := cellO_ext (hE34.trans hx) f1
   have d2 := hcur (hE34.trans hx)
   have d3 : cellO x (some ⟨b3, 2, Option.none⟩) = some (v32 tl) := sv_get (Ext.at hx hB4') rfl
   simp (disch := first | omega | assumption | rfl) only [↓reduceIte, go_sem, Nat.reduceLT, Nat.reduceEqDiff, Nat.reduceSub, t4, t0, t1, t3, hk0, hk1, hxn, d1, d2, d3, Nat.zero_add]
   refine op_min (vr0) (vr0) ?_
   refine ⟨.inr (Keep.refl _ _), ?_⟩
   simp (disch := first | omega | assumption | rfl) only [↓reduceIte, go_sem, Nat.reduceLT, Nat.reduceEqDiff, Nat.reduceSub, t3, Nat.zero_add]
   refine sv_at (P := Tryz.prog) (t := 108) (j := 2) (Ext.at hx hB4') (by simp) rfl rfl rfl ?_
   intro v5 hs5 hB5 hk5
   refine ⟨.inl rfl, ?_⟩
   simp (disch := first | omega | assumption | rfl) only [↓reduceIte, go_sem, Nat.reduceLT, Nat.reduceEqDiff, Nat.reduceSub]
   refine hK _ _ ?_; clear hK hgd; clear K; try clear gd
   have hE5 : Ext v v5 := Keep.to_ext (hE34.trans hx) rfl (fun i hi => by omega) hk5
   have hdv5 := (hdv4.ext hx).keep hk5 (fun b hb hb2 => by have := (hdv4.ge hb).1; omega)
   have hs5' : x2.heap.size ≤ v5.heap.size := by have := hx.size; omega
   clear hk5 hs5 d1 d2 d3 hx x hdv4 hB4' hE4 hE34
   repeat refine c_r ?_
   have hb3x : b3 < x2.heap.size := by omega
   have hxb : xn.block < x2.heap.size := by
    have h1 := cells_lt f2 (by decide) (a := xn.add 2) rfl
    rw [block_add] at h1; omega
   have hbl2 : bl < x2.heap.size := by have := (Array.getElem?_eq_some_iff.1 hbx).1; omega
   refine W_drw (fun i => i == 10) [(0, true), (1, true), (2, true), (3, true), (4, true), (5, true), (6, true), (7, false), (8, false), (9, true), (10, false)] (above x2.heap.size) mixed (by kernel_rfl) ?_; intro gd K x hgd hx hxe hK; have hx0 := drewX hxe; clear hxe
   have d1 := cellsO_ext (hE5.trans hx0) f2
   have d2 := hcur (hE5.trans hx0)
   have d3 : cellO x (some ⟨b3, 3, Option.none⟩) = some dv := sv_get (Ext.at hx0 hB5) rfl
   simp (disch := first | omega | assumption | rfl) only [↓reduceIte, go_sem, Nat.reduceLT, Nat.reduceEqDiff, Nat.reduceSub, t4, t0, t1, t3, hk0, hk1, hxn, d1, d2, d3, Nat.zero_add]
   refine ⟨off_at hb3x, off_at hbl2, off_adr hxb, ?_⟩
   refine bs_oneR (dat_shape w0) (by rfl) (by rfl) (by rfl) (by rfl) n2 (by decide) ?_
   intro y1 hy1 hys1 hyo
   refine ⟨.inr hy1.keep, ?_⟩
   simp (disch := first | omega | assumption | rfl) only [↓reduceIte, go_sem, Nat.reduceLT, Nat.reduceEqDiff, Nat.reduceSub]
   have hsx1 := hx.size
   refine op_appR (dat_shape w0) ((hdv5.ext hx0).ext hy1) hyo.rows (by rfl) (by rfl) (by rfl) (by rfl) (by rfl) (by rfl) (by decide) (vr0) (vr0) (by simp; omega) (by decide) (by omega) ?_
   intro dv' y2 hdv6 hy2 hky2 _
   refine ⟨.inr (hky2.mono fun b _ hb => by have := (hdv5.ge hb).1; show _ ≤ _; omega), ?_⟩
   have hE6 := hy2 v ((hE5.trans hx0).trans hy1) (by omega)
   have hB6 := (hky2.block b3 (by omega) (fun hb => by have := (hdv5.ge hb).1; omega)).trans (Ext.at (hx0.trans hy1) hB5)
   simp (disch := first | omega | assumption | rfl) only [↓reduceIte, go_sem, Nat.reduceLT, Nat.reduceEqDiff, Nat.reduceSub, t3, Nat.zero_add]
   refine sv_at (P := Tryz.prog) (t := 28) (j := 3) hB6 (by simp) (by
    obtain ⟨a9, c9, h9, _⟩ := hdv6.rows.open
    rw [h9]; rfl) rfl rfl ?_
   intro v6 hs6 hB7 hk6
   refine ⟨.inl rfl, ?_⟩
   simp (disch := first | omega | assumption | rfl) only [↓reduceIte, go_sem, Nat.reduceLT, Nat.reduceEqDiff, Nat.reduceSub]
   refine hK _ _ ?_; clear hK hgd; clear K; try clear gd
   repeat refine c_r ?_
   refine rg2 t4 hk1' ?_
   repeat refine c_r ?_
   have hE7 : Ext v v6 := Keep.to_ext hE6 rfl (fun i hi => by omega) hk6
   have hsy := hky2.size
   have htk := take_succ' hk
   refine ⟨m2 - 1, by omega, rfl, n + 1, min tl D[n].ttl, dv', by omega, vq0, (vq1 t0), by simp only [↓reduceIte, go_sem, Nat.reduceLT, Nat.reduceEqDiff, Nat.reduceSub, t1], (vq1 t3), by simpa using hB7, by rw [htk, List.foldl_append, htl]; rfl, ?_, hE7, by omega, fun j hj hjn => ?_⟩
   ·rw [htk, List.map_append]
    exact hdv6.keep hk6 (fun b hb hb2 => by have := (hdv6.ge hb).1; omega)
   ·by_cases hjn2 : j = n
    ·subst hjn2; exact ht
    ·exact hlow j hj (by omega)
  ·intro ht
   have hstop : ∀ h : n < D.length, isL r.owner r.dat.ty D[n] = false := fun h => by rw [tst_in h] at ht; exact ht
   obtain ⟨etw, edw⟩ := take_while (p := isL r.owner r.dat.ty) (l := D) (n := n) (by omega) hlow hstop
   have hn0 : 0 < n := by
    rcases Nat.eq_zero_or_pos n with h | h
    ·subst h
     have := hstop hD0
     rw [hr, isL_self] at this; cases this
    ·exact h
   have hDr : grp D = mkS r (D.take n) :: grp (D.drop n) := by
    have hc : D = r :: D.tail := by
     cases D with
     | nil => simp at hD0
     | cons y l => rw [← hr]; rfl
    rw [hc, grp_cons, ← hc, etw, edw]
   obtain ⟨aD, cD, hdvE, hcD, _⟩ := hdv4.rows.open
   have hDn : ((D.take n).map RecL.dat).length = n := by simp; omega
   rw [hDn] at hdvE hcD
   rw [hdvE] at hB4' hdv4
   have d3 : cellO v4 (some ⟨b3, 3, Option.none⟩) = some (.slice aD n cD) := sv_get hB4' rfl
   repeat refine c_r ?_
   refine rq ?_; intro gd K hgd hK
   try simp (disch := first | omega | assumption | rfl) only [↓reduceIte, go_sem, Nat.reduceLT, Nat.reduceEqDiff, Nat.reduceSub, t3, d3, Nat.zero_add]
   refine Fn.mono (P_cd.Clip_ok hcD) ?_
   rintro _ y0 ⟨rfl, hy0⟩
   try simp (disch := first | omega | assumption | rfl) only [↓reduceIte, go_sem, Nat.reduceLT, Nat.reduceEqDiff, Nat.reduceSub, t3, Nat.zero_add]
   rw [hy0]
   clear hy0 y0
   refine sv_at (P := Tryz.prog) (t := 28) (j := 3) hB4' (by simp) rfl rfl rfl ?_
   intro v5 hs5 hB5 hk5
   try simp (disch := first | omega | assumption | rfl) only [↓reduceIte, go_sem, Nat.reduceLT, Nat.reduceEqDiff, Nat.reduceSub]
   refine hK _ _ ?_; clear hK hgd; clear K; try clear gd
   have hE5 : Ext v v5 := Keep.to_ext hE34 rfl (fun i hi => by omega) hk5
   have hdv5 := hdv4.keep hk5 (fun b hb hb2 => by have := (hdv4.ge hb).1; omega)
   have hrow5 := hdv5.rows.take (m := n) (c2 := n) (Nat.le_refl _) (Nat.le_refl _)
   rw [List.take_of_length_le (by omega)] at hrow5
   have hblk5 : BlkB W.heap.size v5 (.slice aD n n) := (hdv5.blk.same).mono (by have := hKB.size; omega)
   have hP := hlC' xL _ _ rfl
   have hj5 := hJ pre v v5 hj (hE5.mono (fun _ _ h => h.elim))
   have hK5 : KeepB W0.heap.size (fun b => C b ∨ b = bl) W v5 := hKB.trans (hE5.toB (by have := hKB.size; omega) (fun _ _ h => h.elim))
   have hsuf : ∃ suf, grp R = pre ++ mkS r (D.take n) :: suf := ⟨_, by rw [hgr, hDr]⟩
   have hrow4 := hrow.ext hE5
   have hbx5 := Ext.at hE5 hbx
   have hEv5 := hEv.trans hE5
   clear hk5 hs5 d3 hE34 hE4 hE3 hdv4 hdv5 hB4' hlow t33
   repeat refine c_r ?_
   refine rq ?_; intro gd K hgd hK
   have d4 := sv_cells (n := 4) hB5 rfl
   try simp (disch := first | omega | assumption | rfl) only [↓reduceIte, go_sem, Nat.reduceLT, Nat.reduceEqDiff, Nat.reduceSub, t4, t0, t1, t3, d4]
   refine Yld.mono (hY pre (mkS r (D.take n)) v5 _ hsuf hj5 (by have := hK5.size; omega) hK5 ⟨_, rfl, ⟨_, _, by rw [htl]; rfl, o1, hrow5, hblk5⟩⟩) ?_
   have hbC2 : ¬ (C bl) := hbC
   rintro u x ((⟨rfl, hj', hk', _⟩) | ⟨rfl, hjx⟩)
   ·try simp (disch := first | omega | assumption | rfl) only [↓reduceIte, go_sem, Nat.reduceLT, Nat.reduceEqDiff, Nat.reduceSub]
    refine hK _ _ ?_; clear hK hgd; clear K; try clear gd
    repeat refine c_r ?_
    refine wc0 ?_ ?_
    ·intro h; simp at h
    intro _
    have hx1 : x.heap[bl]? = some (.cells #[.slice (some xL) D.length cL] 24 (0, 0)) := (hk'.block bl hbn hbC).trans hbx5
    have hx2 : cellO x (some ⟨bl, 0, Option.none⟩) = some (.slice (some xL) D.length cL) := cellO_at hx1 rfl
    have hn1 : (0 : Int) ≤ (n : Int) := by omega
    have hn2 : (n : Int) ≤ (D.length : Int) := by omega
    repeat refine c_r ?_
    refine rq ?_; intro gd K hgd hK
    try simp (disch := first | omega | assumption | rfl) only [↓reduceIte, go_sem, Nat.reduceLT, Nat.reduceEqDiff, Nat.reduceSub, t4, t1, hx2, hn1, hn2]
    refine sv_at (P := Tryz.prog) (t := 24) (j := 0) (l := [.slice (some xL) D.length cL]) hx1 (by simp) rfl rfl rfl ?_
    intro x3 hs7 hB7 hk7
    try simp (disch := first | omega | assumption | rfl) only [↓reduceIte, go_sem, Nat.reduceLT, Nat.reduceEqDiff, Nat.reduceSub]
    refine hK _ _ ?_; clear hK hgd; clear K; try clear gd
    repeat refine c_r ?_
    have hKx : KeepB W0.heap.size (fun b => C b ∨ b = bl) W x3 := (hK5.trans (hk'.mono (Nat.le_refl _) (fun _ _ h => .inl h))).trans (hk7.toB (by have := hK5.size; have := hk'.size; omega) (fun i _ h => .inr h))
    refine ⟨m - n, by omega, rfl, pre ++ [mkS r (D.take n)], p + n, .slice (if cL = n then some xL else adr (some xL) (n * 7)) (D.length - n) (cL - n), by omega, ?_, (vq1 t0), by simp only [↓reduceIte, go_sem, Nat.reduceLT, Nat.reduceEqDiff, Nat.reduceSub, t1], by simpa using hB7, ?_, fun a n' c' hv => ?_, hJ _ _ _ hj' (hk7.mono (fun _ _ h => .inr h)), hKx, ?_⟩
    ·rw [hgr, hDr, ← hD, List.drop_drop]; simp
    ·rw [← List.drop_drop, hD]
     have h1 : Rows 7 (RecAt w0) x3 (.slice (some xL) D.length cL) D := hrow4.blocks fun a n' c' hv => by
      injection hv with e1
      injection e1 with e1
      subst e1
      exact (hk7.block _ (by have := hk'.size; have := hK5.size; omega) hP.2.1).trans (hk'.block _ hP.2.2 hP.1)
     exact h1.drop (by omega)
    ·injection hv with e1
     rw [sub_block e1]; exact hP
    ·exact ⟨(hKx.os.trans hKB.os.symm).trans hEv.os, (hKx.tape.trans hKB.tape.symm).trans hEv.tape, (hKx.output.trans hKB.output.symm).trans hEv.output, by have := hKx.size; have := hE0.size; omega, fun b hb h => by
      have := (hC0 b)
      rw [hKx.block b (by have := hE0.size; omega) (fun h => by have := hC0 b h; omega)]
      exact (hE0.trans hW).block b hb (fun h => h), by have h1 := (hE0.trans hW).drawn; have h2 := hKx.drawn; exact Nat.le_trans h1 h2⟩
   ·try simp (disch := first | omega | assumption | rfl) only [↓reduceIte, go_sem, Nat.reduceLT, Nat.reduceEqDiff, Nat.reduceSub]
    refine hK _ _ ?_; clear hK hgd; clear K; try clear gd
    repeat refine c_r ?_
    refine wc0 ?_ ?_
    ·intro _
     repeat refine c_r ?_
     refine ret_none (by simp) rfl (.inr ⟨_, _, hsuf, hjx⟩)
    ·intro h; simp at h
 ·intro hge
  simp only [decide_eq_false_iff_not] at hge
  have hDe : D = [] := List.length_eq_zero_iff.1 (by omega)
  rw [hDe, grp_nil, List.append_nil] at hgr
  repeat refine c_r ?_
  refine ret_none (by simp) rfl (.inl ⟨_, rfl, hgr ▸ hj⟩)
end Go.Proofs.YtopbbjdembnfdaaGreat

namespace Go.Proofs.YtopbbjdembnfdaaGreat
open Go

theorem W_alloc3 {P : Program} {w : World} {f : Option Nat} {n : Nat} {c : Code} {Q : Post} {σ : Sto} {ds : List Deferred} {A B C : Obj} (h : ∀ w1, Ext w w1 → w1.heap.size = w.heap.size + 3 → w1.heap[w.heap.size]? = some A → w1.heap[w.heap.size + 1]? = some B → w1.heap[w.heap.size + 1 + 1]? = some C → W P f n c Q σ ds w1) : W P f n c Q σ ds (((w.alloc A).alloc B).alloc C) := by
 obtain ⟨h1, h2, h3, h4, h5⟩ := alloc_three w A B C
 exact h _ h1 h2 h3 h4 h5

section
variable {P : Program} {n : Nat} {σ : Sto} {w : World} {l : List ResultVar} {r : List Value}
theorem res_nil : resV P n σ w [] = some [] := rfl
theorem res_tmp {t : Tmp} {v : Value} (hv : ev n σ (.tmp t) = v) (h : resV P n σ w l = some r) : resV P n σ w (.tmp t :: l) = some (v :: r) := by
 unfold resV
 rw [h, ← hv]; rfl
theorem res_agg {a : Tmp} {t : TypeId} {x : Addr} {k : Nat} {cs : List Value} (hv : ev n σ (.tmp a) = .pointer (some x)) (hA : tyA P t = true) (hk : tyS P t = k) (hc : cellsO w (some x) k = some cs) (h : resV P n σ w l = some r) : resV P n σ w (.cell a t :: l) = some (.agg cs.toArray :: r) := by
 subst hk
 unfold resV
 rw [show (if a < n then σ a else undef) = .pointer (some x) from hv]
 have : ldV P w t x = some (.agg cs.toArray) := by
  unfold ldV
  rw [hA, cond_true, show cellsV w x 0 (tyS P t) = some cs from hc]; rfl
 simp only [this, h]
theorem res_one {a : Tmp} {t : TypeId} {x : Addr} {v : Value} (hv : ev n σ (.tmp a) = .pointer (some x)) (hA : tyA P t = false) (hU : (tyU P t).isSome = true) (hc : cellO w (some x) = some v) (h : resV P n σ w l = some r) : resV P n σ w (.cell a t :: l) = some (v :: r) := by
 unfold resV
 rw [show (if a < n then σ a else undef) = .pointer (some x) from hv]
 have : ldV P w t x = some v := by
  unfold ldV
  rw [hA, cond_false, hU, cond_true]; exact hc
 simp only [this, h]
theorem ret_any {fn : Func} {R : Value → World → Prop} {e : Exit} (he : e = .normal ∨ e = .ret) (hm : fn.ntmps = n) {rs : List ResultVar} (hl : fn.results.toList = rs) (hr : resV P n σ w rs = some r) (h : R (resT r) w) : retQ P fn R e σ [] w := by
 subst hm hl
 exact ⟨he, trivial, r, hr, h⟩
theorem ret_anyM {fn : Func} {R : Value → World → Prop} {e : Exit} {D : Nat} (he : e = .normal ∨ e = .ret) (hm : fn.ntmps = n) {rs : List ResultVar} (hl : fn.results.toList = rs) (hD : w.heap[D]? = some (.deferred (some [])))
  (h : ∀ w', Keep (fun b => b = D) w w' → w'.heap.size = w.heap.size → ∃ r, resV P n σ w' rs = some r ∧ R (resT r) w') : retQ P fn R e σ [{ target := .collected D, args := #[] }] w := by
 subst hm hl
 obtain ⟨r, h1, h2⟩ := h (w.putObj D (.deferred Option.none)) (keep_put rfl) (by simp)
 exact ⟨he, ⟨D, rfl, hD, trivial⟩, r, h1, h2⟩
end
end Go.Proofs.YtopbbjdembnfdaaGreat

namespace Go.Proofs.YtopbbjdembnfdaaGreat
open Go
set_option maxRecDepth 10000

theorem sets_ok {w0 w : World} (hE0 : Ext w0 w) {lv : Value} {R : List RecL} (hl : Rows 7 (RecAt w0) w lv R) :
  Fn Tryz.prog 176 #[lv] w (fun v w' => v = .func (.func 209) #[] #[.pointer (some ⟨w.heap.size, 0, Option.none⟩)] ∧ Ext w w' ∧ w'.heap.size = w.heap.size + 1 ∧ w'.heap[w.heap.size]? = some (.cells #[lv] 24 (0, 0))) := by
 refine enter Tryz.func176 Tryz.ntmps176 rfl rfl ?_
 repeat refine c_r ?_
 obtain ⟨a, n, c, rfl⟩ : ∃ a n c, lv = .slice a n c := by
  obtain ⟨a, c, h, _⟩ := hl.open
  exact ⟨a, _, c, h⟩
 refine rg0 ?_
 repeat refine c_r ?_
 refine rg0 ?_
 repeat refine c_r ?_
 refine rt0 Tryz.ntmps176 ?_
 exact ⟨rfl, Ext.alloc _ _, new_size _ _, new_block _ _⟩


theorem keepB_ext {w0 w x : World} {n0 : Nat} {C : Nat → Prop} (hE : Ext w0 w) (hk : KeepB n0 C w x) (hn : w0.heap.size ≤ n0) (hC : ∀ b, C b → w0.heap.size ≤ b) : Ext w0 x :=
 ⟨hk.os.trans hE.os, hk.tape.trans hE.tape, hk.output.trans hE.output, Nat.le_trans hE.size hk.size, fun b hb h => by
  rw [hk.block b (by omega) (fun h => by have := hC b h; omega)]
  exact hE.block b hb (fun h => h), Nat.le_trans hE.drawn hk.drawn⟩

theorem Of_ok {w0 w : World} (hE0 : Ext w0 w) {lv ov : Value} {R : List RecL} {o : Nm} {t : Int} (hl : Rows 7 (RecAt w0) w lv R) (ho : Row w ov (o.map vs)) (hlo : LB o) (hol : o.length ≤ 1000000000000000) (hok : ∀ r ∈ R, RecOk r) (hlen : R.length ≤ 1000000000) :
  Fn Tryz.prog 128 #[lv, ov, vi t] w (fun v w' => Ext w w' ∧ ∃ ow ty tl dv, v = .tuple #[.agg #[ow, vi ty, v32 tl, dv], .bool (decide (ofC R o t ≠ []))] ∧ one ow = true ∧ (ofC R o t ≠ [] → ty = t) ∧ Rows 5 (DatAt w0) w' dv ((ofC R o t).map RecL.dat) ∧ BlkB w.heap.size w' dv) := by
 obtain ⟨aR, cR, rfl, hcR, hgR⟩ := hl.open
 refine enter Tryz.func128 Tryz.ntmps128 rfl rfl ?_
 repeat refine c_r ?_
 refine rg0 ?_
 repeat refine c_r ?_
 rw [new_size]
 refine W_alloc2 ?_
 intro w1 hE1 hs1 hA hB
 refine rg0 ?_
 repeat refine c_r ?_
 refine rg0 ?_
 repeat refine c_r ?_
 refine W_loop (fun m σ ds A => ds = [] ∧ ∃ (i : Nat) (mv : Value), i + m = R.length ∧ σ 14 = vi i ∧ σ 12 = .slice aR R.length cR ∧ σ 13 = vi R.length ∧ σ 8 = mv ∧ σ 1 = ov ∧ σ 2 = vi t ∧ σ 6 = .pointer (some ⟨w.heap.size, 0, Option.none⟩) ∧ σ 7 = .pointer (some ⟨w.heap.size + 1, 0, Option.none⟩) ∧
  Owns 7 (RecAt w0) w1.heap.size A 110 mv ((R.take i).filter (isL o t)) ∧ Ext w1 A) R.length ?_ ?_
 ·exact ⟨rfl, 0, .slice Option.none 0 0, by omega, vr0, vq0, vq0, vq0, vq0, vq0, vq0, vq0, Owns.nil _ _ _ _ _, Keep.refl _ _⟩
 rintro m σ ds A ⟨rfl, i, mv, him, h14, h12, h13, h8, h1, h2, h6, h7, hmv, hEA⟩
 have hEwA := hE1.trans hEA
 repeat refine c_r ?_
 refine rg2 h14 h13 ?_
 repeat refine c_r ?_
 refine wc0 ?_ ?_
 ·intro hlt
  simp only [decide_eq_true_eq] at hlt
  have hiR : i < R.length := by omega
  have hi0 : (0 : Int) ≤ (i : Int) := by omega
  have hi1 : (i : Int) < (R.length : Int) := by omega
  have hi1' : (i : Int) + 1 = ((i + 1 : Nat) : Int) := by push_cast; rfl
  obtain ⟨cr, hcr, hRr⟩ := hgR i hiR
  obtain ⟨r, hr⟩ : ∃ r, R[i] = r := ⟨_, rfl⟩
  rw [hr] at hRr
  have hrok : RecOk r := hr ▸ hok _ (List.getElem_mem hiR)
  obtain ⟨xR, rfl⟩ := Option.isSome_iff_exists.1 (cellsO_some hcr)
  have hcrA := cellsO_ext hEwA hcr
  have hfl : (R.take (i + 1)).filter (isL o t) = (R.take i).filter (isL o t) ++ (if isL o t r then [r] else []) := by
   rw [take_succ' hiR, hr, List.filter_append]
   congr 1
   by_cases h : isL o t r = true <;> simp [h]
  repeat refine c_r ?_
  refine rq ?_; intro gd K hgd hK
  try simp (disch := first | omega | assumption | rfl) only [↓reduceIte, go_sem, Nat.reduceLT, Nat.reduceEqDiff, Nat.reduceSub, h12, h14, hi0, hi1, hcrA]
  refine SD.set (P := Tryz.prog) (t := 110) (sd_zero A) (j := 0) (by simp) hRr.len hRr.ones rfl rfl ?_
  intro A1 hs2 hL1 hk1
  have hX1 := Ext.alloc A (.cells #[.slice Option.none 0 0, v32 0, vi 0, .slice Option.none 0 0, .slice Option.none 0 0, .slice Option.none 0 0, .slice Option.none 0 0] 110 (0, 0))
  have hEA1 : Ext A A1 := Keep.to_ext hX1 rfl (fun i hi => by omega) hk1
  clear hk1 hX1 hs2
  try simp (disch := first | omega | assumption | rfl) only [↓reduceIte, go_sem, Nat.reduceLT, Nat.reduceEqDiff, Nat.reduceSub]
  refine hK _ _ ?_; clear hK hgd; clear K; try clear gd
  have hg10 := hL1.get (j := 0) (by simp)
  have hE1' := hEwA.trans hEA1
  obtain ⟨ao, no, co, hov⟩ : ∃ a n c, ov = .slice a n c := by
   obtain ⟨a, c, h, _⟩ := ho
   exact ⟨_, _, _, h⟩
  repeat refine c_r ?_
  refine rq ?_; intro gd K hgd hK
  try simp (disch := first | omega | assumption | rfl) only [↓reduceIte, go_sem, Nat.reduceLT, Nat.reduceEqDiff, Nat.reduceSub, h1, h2, hg10]
  rw [hov]
  refine ⟨by kernel_rfl, ?_⟩
  rw [show bdV Tryz.prog 209 [(0, .slice ao no co), (1, vi t)] = some (.agg #[.slice ao no co, vi t, v32 0, .slice Option.none 0 0]) from by kernel_rfl]
  rw [← hov]
  try simp (disch := first | omega | assumption | rfl) only [↓reduceIte, go_sem, Nat.reduceLT, Nat.reduceEqDiff, Nat.reduceSub, hg10]
  refine Fn.mono (is_ok A1 ov _ _ o t cr r (ho.ext hE1') (hRr.ext (hE0.trans hE1')) hlo hol hrok) ?_
  rintro _ A2 ⟨rfl, hEA2⟩
  try simp (disch := first | omega | assumption | rfl) only [↓reduceIte, go_sem, Nat.reduceLT, Nat.reduceEqDiff, Nat.reduceSub]
  refine hK _ _ ?_; clear hK hgd; clear K; try clear gd
  have hEA' := hEA.trans (hEA1.trans hEA2)
  have hmv2 := (hmv.ext hEA1).ext hEA2
  have hg10' := cellsO_ext hEA2 hg10
  repeat refine c_r ?_
  refine wc0 ?_ ?_
  ·intro ht
   repeat refine c_r ?_
   refine rq ?_; intro gd K hgd hK
   try simp (disch := first | omega | assumption | rfl) only [↓reduceIte, go_sem, Nat.reduceLT, Nat.reduceEqDiff, Nat.reduceSub, h8, hg10']
   refine bs_oneR (rec_shape w0) (by rfl) (by rfl) (by rfl) (by rfl) hRr (by decide) ?_
   intro A3 hE3 hs3 ho3
   try simp (disch := first | omega | assumption | rfl) only [↓reduceIte, go_sem, Nat.reduceLT, Nat.reduceEqDiff, Nat.reduceSub]
   refine op_appR (rec_shape w0) (hmv2.ext hE3) ho3.rows (by rfl) (by rfl) (by rfl) (by rfl) (by rfl) (by rfl) (by decide) (by rfl) (by rfl) (by have := List.length_filter_le (isL o t) (R.take i); simp at this ⊢; omega) (by decide) (by have := hEA'.size; omega) ?_
   intro mv' A4 hmv4 hE4 _ _
   try simp (disch := first | omega | assumption | rfl) only [↓reduceIte, go_sem, Nat.reduceLT, Nat.reduceEqDiff, Nat.reduceSub]
   refine hK _ _ ?_; clear hK hgd; clear K; try clear gd
   repeat refine c_r ?_
   refine rg2 h14 hi1' ?_
   repeat refine c_r ?_
   exact ⟨m - 1, by omega, rfl, i + 1, mv', by omega, vq0, (vq1 h12), (vq1 h13), vq0, (vq1 h1), (vq1 h2), (vq1 h6), (vq1 h7), by rw [hfl, if_pos ht]; exact hmv4, hE4 w1 (hEA'.trans hE3) (Nat.le_refl _)⟩
  ·intro ht
   repeat refine c_r ?_
   refine rg2 h14 hi1' ?_
   repeat refine c_r ?_
   exact ⟨m - 1, by omega, rfl, i + 1, mv, by omega, vq0, (vq1 h12), (vq1 h13), (vq1 h8), (vq1 h1), (vq1 h2), (vq1 h6), (vq1 h7), by rw [hfl, if_neg (by rw [ht]; exact Bool.false_ne_true), List.append_nil]; exact hmv2, hEA'⟩
 ·intro hge
  simp only [decide_eq_false_iff_not] at hge
  rw [List.take_of_length_le (by omega)] at hmv
  have hcl : (R.filter (isL o t)).length ≤ R.length := List.length_filter_le _ _
  repeat refine c_r ?_
  refine rq ?_; intro gd K hgd hK
  try simp (disch := first | omega | assumption | rfl) only [↓reduceIte, go_sem, Nat.reduceLT, Nat.reduceEqDiff, Nat.reduceSub, h8]
  refine Fn.mono (Canon_ok w0 A (hE0.trans hEwA) hmv.rows (fun r hr => hok r (List.mem_filter.1 hr).1) (by omega)) ?_
  rintro cv A1 ⟨hcv, hEA1, hcb⟩
  try simp (disch := first | omega | assumption | rfl) only [↓reduceIte, go_sem, Nat.reduceLT, Nat.reduceEqDiff, Nat.reduceSub]
  refine Fn.mono (sets_ok (hE0.trans (hEwA.trans hEA1)) hcv) ?_
  rintro _ A2 ⟨rfl, hEA2, hsz2, hbx⟩
  try simp (disch := first | omega | assumption | rfl) only [↓reduceIte, go_sem, Nat.reduceLT, Nat.reduceEqDiff, Nat.reduceSub]
  refine hK _ _ ?_; clear hK hgd; clear K; try clear gd
  have hOC : canonL (R.filter (isL o t)) = ofC R o t := rfl
  rw [hOC] at hcv
  have hE02 := (hE0.trans (hEwA.trans hEA1)).trans hEA2
  have hEw2 := (hEwA.trans hEA1).trans hEA2
  have hC6 := Ext.at ((hEA.trans hEA1).trans hEA2) hA
  have hC7 := Ext.at ((hEA.trans hEA1).trans hEA2) hB
  have s1 := hE1.size
  have s2 := hEA.size
  have s3 := hEA1.size
  have s4 := hE0.size
  have hit := setsIt (C := fun b => b = w.heap.size ∨ b = w.heap.size + 1) hE02 hbx (hcv.ext hEA2) (by omega) (fun b hb => by omega) (fun a n c hv => by
   have := hcb a n c hv
   exact ⟨by omega, by omega, by omega⟩) (fun r hr => by
    have := canonL_all (Q := RecOk) (fun a b h => ⟨h.lb, h.len, h.dat⟩) (l := R.filter (isL o t)) (fun x hx => hok x (List.mem_filter.1 hx).1)
    exact this r hr) (by have := canonL_len (R.filter (isL o t)); unfold ofC; omega)
  repeat refine c_r ?_
  refine W_rangeT (g := 209) (cap := #[.pointer (some ⟨A1.heap.size, 0, Option.none⟩)]) (vq0) rfl hit (Keep.refl _ _) (Nat.le_refl _) (fun b hb => by omega) (fun b hb => by omega)
   (fun x B args h => by obtain ⟨cs, h, _⟩ := h; rw [h]; rfl)
   (fun pre B => pre = [] ∧ Ext w B ∧ B.heap[w.heap.size]? = some (.cells #[.slice Option.none 0 0, vi 0, v32 0, .slice Option.none 0 0] 209 (0, 0)) ∧ B.heap[w.heap.size + 1]? = some (.cells #[.bool false] 4 (0, 0)))
   (fun c pre B => c = .ret ∧ ∃ s cs, pre = [s] ∧ Ext w B ∧ SetAt w0 (A2.heap.size + 2) B cs s ∧ B.heap[w.heap.size]? = some (.cells cs.toArray 209 (0, 0)) ∧ B.heap[w.heap.size + 1]? = some (.cells #[.bool true] 4 (0, 0))) ?_ ?_ ?_ ?_ ?_ ?_
  ·rintro pre B B' ⟨rfl, hEB, h6', h7'⟩ hk
   exact ⟨rfl, Keep.to_ext hEB rfl (fun b hb => by unfold span at hb; omega) hk, (hk.block _ (Array.getElem?_eq_some_iff.1 h6').1 (by unfold span; omega)).trans h6', (hk.block _ (Array.getElem?_eq_some_iff.1 h7').1 (by unfold span; omega)).trans h7'⟩
  ·rintro c pre B B' ⟨rfl, s, cs, rfl, hEB, ⟨ow, dv, hcs, k1, k2, k3⟩, h6', h7'⟩ hk
   exact ⟨rfl, s, cs, rfl, Keep.to_ext hEB rfl (fun b hb => by unfold span at hb; omega) hk, ⟨ow, dv, hcs, k1, k2.keep hk k3 (fun b hb hb2 => by unfold span; omega), k3.ext hk.size⟩, (hk.block _ (Array.getElem?_eq_some_iff.1 h6').1 (by unfold span; omega)).trans h6', (hk.block _ (Array.getElem?_eq_some_iff.1 h7').1 (by unfold span; omega)).trans h7'⟩
  ·exact ⟨rfl, hEw2, hC6, hC7⟩
  ·rintro lp pre s B args ⟨suf, hgr⟩ hszB ⟨rfl, hEB, hb6, hb7⟩ ⟨cs, rfl, ow, dv, hcs, k1, k2, k3⟩
   obtain ⟨ao, co, rfl, _⟩ := k1
   obtain ⟨ad, cd, rfl, _⟩ := k2.open
   have hc1 : ∀ v ∈ cs, one v = true := fun v hv => by
    rw [hcs] at hv; simp at hv; rcases hv with rfl | rfl | rfl | rfl <;> rfl
   have hcl : cs.length = 4 := by rw [hcs]; rfl
   refine rq ?_; intro gd K hgd hK
   try simp (disch := first | omega | assumption | rfl) only [↓reduceIte, go_sem, Nat.reduceLT, Nat.reduceEqDiff, Nat.reduceSub]
   have hB3 := new_block B (.cells #[.slice Option.none 0 0, vi 0, v32 0, .slice Option.none 0 0] 209 (0, 0))
   have hE3 := Ext.alloc B (.cells #[.slice Option.none 0 0, vi 0, v32 0, .slice Option.none 0 0] 209 (0, 0))
   revert hB3 hE3
   generalize B.alloc (.cells #[.slice Option.none 0 0, vi 0, v32 0, .slice Option.none 0 0] 209 (0, 0)) = x1
   intro hB3 hE3
   refine sv_all (P := Tryz.prog) (t := 209) (l := cs) hB3 hcl hc1 (by rw [hcl]; rfl) rfl ?_
   intro x2 hs4 hB4 hk4
   try simp (disch := first | omega | assumption | rfl) only [↓reduceIte, go_sem, Nat.reduceLT, Nat.reduceEqDiff, Nat.reduceSub]
   refine hK _ _ ?_; clear hK hgd; clear K; try clear gd
   have hEx : Ext B x2 := Keep.to_ext hE3 rfl (fun b hb => by omega) hk4
   refine thenQ_normal ?_
   refine ⟨rfl, hEx.toB (by omega) (fun _ _ h => h.elim), fun Y hY => ?_⟩
   have hxs := hEx.size
   have hB5 := (hY.block B.heap.size (Array.getElem?_eq_some_iff.1 hB4).1 (by unfold two; omega)).trans hB4
   have hb6' := (hY.block w.heap.size (by omega) (by unfold two; omega)).trans (Ext.at hEx hb6)
   have hb7' := (hY.block (w.heap.size + 1) (by omega) (by unfold two; omega)).trans (Ext.at hEx hb7)
   have k2' := (k2.ext hEx).keep hY (k3.ext hxs) (fun b hb hb2 => by unfold two; omega)
   have hEY : Ext w Y := Keep.to_ext (hEB.trans hEx) rfl (fun b hb => by unfold two at hb; omega) hY
   have d1 := sv_cells (n := 4) hB5 hcl.symm
   have hYs := hY.size
   repeat refine c_r ?_
   refine rq ?_; intro gd K hgd hK
   try simp (disch := first | omega | assumption | rfl) only [↓reduceIte, go_sem, Nat.reduceLT, Nat.reduceEqDiff, Nat.reduceSub, h6, h7, d1]
   refine sv_all (P := Tryz.prog) (t := 209) (l := cs) hb6' hcl hc1 (by rw [hcl]; rfl) rfl ?_
   intro z1 hz1 hbz1 hkz1
   try simp (disch := first | omega | assumption | rfl) only [↓reduceIte, go_sem, Nat.reduceLT, Nat.reduceEqDiff, Nat.reduceSub, h6, h7]
   have hb7z := (hkz1.block (w.heap.size + 1) (by omega) (by omega)).trans hb7'
   refine sv_at (P := Tryz.prog) (t := 4) (j := 0) (l := [.bool false]) hb7z (by simp) rfl rfl rfl ?_
   intro z2 hz2 hbz2 hkz2
   try simp (disch := first | omega | assumption | rfl) only [↓reduceIte, go_sem, Nat.reduceLT, Nat.reduceEqDiff, Nat.reduceSub]
   refine hK _ _ ?_; clear hK hgd; clear K; try clear gd
   repeat refine c_r ?_
   have hkz : Keep (fun b => b = w.heap.size ∨ b = w.heap.size + 1) Y z2 := (hkz1.mono (fun b _ h => .inl h)).trans (hkz2.mono (fun b _ h => .inr h))
   refine ⟨⟨rfl, s, cs, rfl, Keep.to_ext hEY rfl (fun b hb => by omega) hkz, ⟨_, _, hcs, ⟨ao, co, rfl, ‹_›⟩, k2'.keep hkz (k3.ext (by omega)) (fun b hb hb2 => by omega), k3.ext (by omega)⟩, (hkz2.block w.heap.size (by omega) (by omega)).trans hbz1, by simpa using hbz2⟩, hkz.toB (by omega) (fun i _ h => h)⟩
  ·rintro xs B rfl hszB ⟨hxs, hEB, hb6, hb7⟩ hD
   have hnil : ofC R o t = [] := by
    cases hq : ofC R o t with
    | nil => rfl
    | cons r l => rw [hq, grp_cons] at hxs; cases hxs
   repeat refine c_r ?_
   refine rq ?_; intro gd K hgd hK
   try simp (disch := first | omega | assumption | rfl) only [↓reduceIte, go_sem, Nat.reduceLT, Nat.reduceEqDiff, Nat.reduceSub, h6, h7]
   refine ⟨by kernel_rfl, ?_⟩
   rw [show bdV Tryz.prog 209 [] = some (.agg #[.slice Option.none 0 0, vi 0, v32 0, .slice Option.none 0 0]) from by kernel_rfl]
   try simp (disch := first | omega | assumption | rfl) only [↓reduceIte, go_sem, Nat.reduceLT, Nat.reduceEqDiff, Nat.reduceSub, h6, h7]
   refine sv_all (P := Tryz.prog) (t := 209) (l := [.slice Option.none 0 0, vi 0, v32 0, .slice Option.none 0 0]) hb6 rfl (fun v h => by simp at h; rcases h with rfl | rfl | rfl | rfl <;> rfl) rfl rfl ?_
   intro z1 hz1 hbz1 hkz1
   try simp (disch := first | omega | assumption | rfl) only [↓reduceIte, go_sem, Nat.reduceLT, Nat.reduceEqDiff, Nat.reduceSub, h6, h7]
   have hb7z := (hkz1.block (w.heap.size + 1) (by omega) (by omega)).trans hb7
   refine sv_at (P := Tryz.prog) (t := 4) (j := 0) (l := [.bool false]) hb7z (by simp) rfl rfl rfl ?_
   intro z2 hz2 hbz2 hkz2
   try simp (disch := first | omega | assumption | rfl) only [↓reduceIte, go_sem, Nat.reduceLT, Nat.reduceEqDiff, Nat.reduceSub]
   refine hK _ _ ?_; clear hK hgd; clear K; try clear gd
   repeat refine c_r ?_
   have hkz : Keep (fun b => b = w.heap.size ∨ b = w.heap.size + 1) B z2 := (hkz1.mono (fun b _ h => .inl h)).trans (hkz2.mono (fun b _ h => .inr h))
   have hEz : Ext w z2 := Keep.to_ext hEB rfl (fun b hb => by omega) hkz
   have hD2 := (hkz.block _ (by omega) (by omega)).trans hD
   have c6 := (hkz2.block w.heap.size (by omega) (by omega)).trans hbz1
   refine ret_anyM (.inr rfl) Tryz.ntmps128 rfl hD2 ?_
   intro Z hkZ hsZ
   refine ⟨_, res_agg (x := ⟨w.heap.size, 0, Option.none⟩) (k := 4) ((vq1 h6)) rfl rfl (sv_cells (l := [.slice Option.none 0 0, vi 0, v32 0, .slice Option.none 0 0]) ((hkZ.block w.heap.size (by omega) (by omega)).trans c6) rfl) (res_one (x := ⟨w.heap.size + 1, 0, Option.none⟩) ((vq1 h7)) rfl rfl (sv_get (j := 0) (l := [.bool false]) ((hkZ.block (w.heap.size + 1) (by omega) (by omega)).trans (by simpa using hbz2)) rfl) res_nil), Keep.to_ext hEz rfl (fun b hb => by omega) hkZ, _, _, _, _, by rw [hnil]; rfl, rfl, fun h => absurd hnil h, by rw [hnil]; exact Rows.nil _ _ _, BlkB.nil⟩
  ·rintro c pre s B hszB ⟨suf, hgr⟩ ⟨rfl, s', cs, hpre, hEB, ⟨ow, dv, hcs, k1, k2, k3⟩, hb6, hb7⟩ hD
   have hp0 : pre = [] := by
    have := congrArg List.length hpre
    simp at this; exact this
   subst hp0
   have hss : s = s' := by simpa using hpre
   subst hss
   have hne : ofC R o t ≠ [] := fun h => by rw [h, grp_nil] at hgr; cases hgr
   obtain ⟨r, l, hrl⟩ : ∃ r l, ofC R o t = r :: l := by
    cases hq : ofC R o t with
    | nil => exact absurd hq hne
    | cons r l => exact ⟨r, l, rfl⟩
   have hall := ofC_is (R := R) (o := o) (t := t)
   rw [hrl] at hall
   rw [hrl, grp_one hall] at hgr
   have hs : s = mkS r (r :: l) := by
    injection hgr with h1 _
    exact h1.symm
   have hty := hall r (List.mem_cons_self ..)
   simp only [isL, Bool.and_eq_true, decide_eq_true_eq] at hty
   have hcl : cs.length = 4 := by rw [hcs]; rfl
   repeat refine c_r ?_
   refine ret_anyM (.inr rfl) Tryz.ntmps128 rfl hD ?_
   intro Z hkZ hsZ
   refine ⟨_, res_agg (x := ⟨w.heap.size, 0, Option.none⟩) (k := 4) ((vq1 h6)) rfl rfl (sv_cells ((hkZ.block w.heap.size (by omega) (by omega)).trans hb6) hcl.symm) (res_one (x := ⟨w.heap.size + 1, 0, Option.none⟩) ((vq1 h7)) rfl rfl (sv_get (j := 0) (l := [.bool true]) ((hkZ.block (w.heap.size + 1) (by omega) (by omega)).trans (by simpa using hb7)) rfl) res_nil), Keep.to_ext hEB rfl (fun b hb => by omega) hkZ, ow, s.ty, s.ttl, dv, by rw [hcs, show decide (ofC R o t ≠ []) = true from decide_eq_true hne]; rfl, ?_, fun _ => by rw [hs]; exact hty.1.symm, ?_, ?_⟩
   ·obtain ⟨_, _, e, _⟩ := k1
    rw [e]; rfl
   ·have := k2.keep hkZ k3 (fun b hb hb2 => by omega)
    rw [hs] at this
    rw [hrl]; exact this
   ·exact (k3.ext (by omega)).mono (by omega)
end Go.Proofs.YtopbbjdembnfdaaGreat
