/-
  Texts of a proof, joined: G1, G2, G3, G4, G5, Y3, M6ed, M6eg, F0, F1, G6, G7, KR2, G8, L3, K25, Y6.
  Conditions: none.
-/
import Derived.Test.YtopbbjdembnfdaaGreatJF08
import Derived.Test.YtopbbjdembnfdaaGreatJF01
import Derived.Test.YtopbbjdembnfdaaGreatJF06
import Derived.Test.YtopbbjdembnfdaaGreatJF02
import Derived.Test.YtopbbjdembnfdaaGreatJF05
import Derived.Test.YtopbbjdembnfdaaGreatJF03
import Derived.Test.YtopbbjdembnfdaaGreatJF04
set_option linter.unusedVariables false
set_option linter.unusedSimpArgs false
set_option linter.defProp false
set_option linter.unnecessarySimpa false
namespace Go.Proofs.YtopbbjdembnfdaaGreat
open Go
set_option maxRecDepth 10000

theorem bi_undef (b : Bool) : boolIs undef b = false := nr rfl
structure DatF (d : DatL) : Prop where
 names : ∀ n ∈ d.names, (∀ l ∈ n, l.length ≤ 1000000000) ∧ n.length ≤ 1000000000
 nn : d.names.length ≤ 1000000000
 nu : d.nums.length ≤ 1000000000
 nt : d.texts.length ≤ 1000000000
 tl : ∀ l ∈ d.texts, l.length ≤ 1000000000
 nr : d.raw.length ≤ 1000000000
def leadT (t : Int) : Prop := t = 2 ∨ t = 5 ∨ t = 39

set_option maxHeartbeats 2000000 in
theorem RCheckData_ok {w0 w : World} (hE0 : Ext w0 w) {cs : List Value} {d : DatL} (hd : DatAt w0 cs d) (hf : DatF d) :
  Fn Tryz.prog 173 #[.agg cs.toArray] w (fun v w' => Ext w w' ∧ ∃ e : Int, v = vi e ∧ (e = 0 → (∀ n ∈ d.names, checkN n = 0) ∧ (leadT d.ty → d.names.length = 1))) := by
 obtain ⟨nm, nu, tx, rw', rfl, ⟨vals, ⟨an, cn, rfl, hcn, hgn⟩, hvl, hvr⟩, ⟨au, cu, rfl, hcu, hgu⟩, ⟨at1, ct, rfl, hct, hgt⟩, ⟨ar, cr, rfl, hcr, hgr⟩⟩ := hd.ex
 simp only [List.length_map] at hcu hgu hct hgt hcr hgr
 simp only [List.length_map]
 obtain ⟨L, hL⟩ : ∃ L : List Value, [vi d.ty, .slice an vals.length cn, .slice au d.nums.length cu, .slice at1 d.texts.length ct, .slice ar d.raw.length cr] = L := ⟨_, rfl⟩
 refine enter Tryz.func173 Tryz.ntmps173 rfl rfl ?_
 repeat refine c_r ?_
 refine rg0 ?_
 repeat refine c_r ?_
 refine W_alloc1 ?_
 intro w1 hE1 hs1 hA
 have p0 : cellO w1 (some ⟨w.heap.size, 0, Option.none⟩) = some (vi d.ty) := cellO_at hA rfl
 have p1 : cellO w1 (some ⟨w.heap.size, 1, Option.none⟩) = some (.slice an vals.length cn) := cellO_at hA rfl
 have p2 : cellO w1 (some ⟨w.heap.size, 2, Option.none⟩) = some (.slice au d.nums.length cu) := cellO_at hA rfl
 have p3 : cellO w1 (some ⟨w.heap.size, 3, Option.none⟩) = some (.slice at1 d.texts.length ct) := cellO_at hA rfl
 have p4 : cellO w1 (some ⟨w.heap.size, 4, Option.none⟩) = some (.slice ar d.raw.length cr) := cellO_at hA rfl
 have nn := hf.nn
 have nu := hf.nu
 have nt := hf.nt
 have nr := hf.nr
 have rd : ∀ {x}, Ext w1 x → cellO x (some ⟨w.heap.size, 1, Option.none⟩) = some (.slice an vals.length cn) ∧ cellO x (some ⟨w.heap.size, 3, Option.none⟩) = some (.slice at1 d.texts.length ct) ∧ cellO x (some ⟨w.heap.size, 0, Option.none⟩) = some (vi d.ty) ∧ cellO x (some ⟨w.heap.size, 2, Option.none⟩) = some (.slice au d.nums.length cu) ∧ cellO x (some ⟨w.heap.size, 4, Option.none⟩) = some (.slice ar d.raw.length cr) :=
  fun hx => ⟨cellO_ext hx p1, cellO_ext hx p3, cellO_ext hx p0, cellO_ext hx p2, cellO_ext hx p4⟩
 refine W_mono (Q := fun e σ' ds' v' => e = .normal ∧ ds' = [] ∧ σ' 1 = .pointer (some ⟨w.heap.size, 0, Option.none⟩) ∧ v' = w1 ∧ ∃ bb, σ' 17 = .bool bb) ?_ ?_
 ·by_cases h1 : d.ty < 1
  ·refine rq ?_; intro gd K hgd hK
   have hg3 : ∀ n σ b, wantV gd n σ (some (3, b)) = boolIs (ev n σ (.tmp 13)) b := (fun n σ b => by rw [wantV_some, show gd 3 = some 13 from (by rw [hgd]; rfl)]; rfl)
   try simp (disch := first | omega | assumption | rfl) only [↓reduceIte, go_sem, Nat.reduceLT, Nat.reduceEqDiff, Nat.reduceSub, p0, Nat.add_zero, decide_eq_true h1, ↓hg3]
   refine hK _ _ ?_; clear hK hgd; clear K; try clear gd
   exact ⟨rfl, rfl, vq0, rfl, _, vr0⟩
  ·refine rq ?_; intro gd K hgd hK
   have hg3 : ∀ n σ b, wantV gd n σ (some (3, b)) = boolIs (ev n σ (.tmp 13)) b := (fun n σ b => by rw [wantV_some, show gd 3 = some 13 from (by rw [hgd]; rfl)]; rfl)
   try simp (disch := first | omega | assumption | rfl) only [↓reduceIte, go_sem, Nat.reduceLT, Nat.reduceEqDiff, Nat.reduceSub, p0, Nat.add_zero, decide_eq_false h1, ↓hg3]
   refine hK _ _ ?_; clear hK hgd; clear K; try clear gd
   exact ⟨rfl, rfl, vq0, rfl, _, vr0⟩
 rintro _ σ1 _ v1 ⟨rfl, rfl, h1, hv1, bb, h17⟩
 rw [hv1]
 clear hv1 v1
 repeat refine c_r ?_
 refine W_cond (t := bb) ((vq1 h17)) ?_ ?_
 ·intro _
  repeat (first | refine c_r ?_ | refine rg0 ?_)
  refine rt0 Tryz.ntmps173 ?_
  exact ⟨hE1, 6, rfl, fun h => by cases h⟩
 intro _
 repeat refine c_r ?_
 refine rq ?_; intro gd K hgd hK
 try simp (disch := first | omega | assumption | rfl) only [↓reduceIte, go_sem, Nat.reduceLT, Nat.reduceEqDiff, Nat.reduceSub, h1, p0, Nat.add_zero]
 refine Fn.mono (Counts_ok w1 d.ty) ?_
 rintro _ w2 ⟨hw2, a, b, c, rfl, hca, hcb⟩
 rw [hw2]
 clear hw2 w2
 try simp (disch := first | omega | assumption | rfl) only [↓reduceIte, go_sem, Nat.reduceLT, Nat.reduceEqDiff, Nat.reduceSub]
 refine hK _ _ ?_; clear hK hgd; clear K; try clear gd
 repeat refine c_r ?_
 refine rg3 h1 p3 Nat.zero_add ?_
 repeat refine c_r ?_
 refine rg3 h1 p0 Nat.add_zero ?_
 repeat refine c_r ?_
 refine W_mono (Q := fun e σ' ds' v' => e = .normal ∧ ds' = [] ∧ σ' 1 = .pointer (some ⟨w.heap.size, 0, Option.none⟩) ∧ σ' 3 = vi a ∧ σ' 4 = vi b ∧ σ' 5 = vi c ∧ v' = w1 ∧ ∃ bb, σ' 6 = .bool bb) ?_ ?_
 ·refine wc0 ?_ ?_
  ·intro h16
   repeat refine c_r ?_
   by_cases h2 : (d.texts.length : Int) ≥ 1
   ·refine rq ?_; intro gd K hgd hK
    have hg4 : ∀ n σ b, wantV gd n σ (some (4, b)) = boolIs (ev n σ (.tmp 36)) b := (fun n σ b => by rw [wantV_some, show gd 4 = some 36 from (by rw [hgd]; rfl)]; rfl)
    try simp (disch := first | omega | assumption | rfl) only [↓reduceIte, go_sem, Nat.reduceLT, Nat.reduceEqDiff, Nat.reduceSub, h1, p3, Nat.zero_add, decide_eq_true h2, ↓hg4]
    refine hK _ _ ?_; clear hK hgd; clear K; try clear gd
    exact ⟨rfl, rfl, (vq1 h1), vq0, vq0, vq0, rfl, _, vr0⟩
   ·refine rq ?_; intro gd K hgd hK
    have hg4 : ∀ n σ b, wantV gd n σ (some (4, b)) = boolIs (ev n σ (.tmp 36)) b := (fun n σ b => by rw [wantV_some, show gd 4 = some 36 from (by rw [hgd]; rfl)]; rfl)
    try simp (disch := first | omega | assumption | rfl) only [↓reduceIte, go_sem, Nat.reduceLT, Nat.reduceEqDiff, Nat.reduceSub, h1, p3, Nat.zero_add, decide_eq_false h2, ↓hg4]
    refine hK _ _ ?_; clear hK hgd; clear K; try clear gd
    exact ⟨rfl, rfl, (vq1 h1), vq0, vq0, vq0, rfl, _, vr0⟩
  ·intro h16
   repeat refine c_r ?_
   exact ⟨rfl, rfl, (vq1 h1), vq0, vq0, vq0, rfl, _, vr0⟩
 clear h1
 rintro _ σ2 _ v1 ⟨rfl, rfl, h1, h3, h4, h5, hv1, b6, h6⟩
 rw [hv1]
 clear hv1 v1
 repeat refine c_r ?_
 refine W_mono (Q := fun e σ' ds' v' => e = .normal ∧ ds' = [] ∧ σ' 1 = .pointer (some ⟨w.heap.size, 0, Option.none⟩) ∧ v' = w1 ∧ ∃ bb, σ' 68 = .bool bb ∧ (bb = false → (vals.length : Int) = a ∧ (d.nums.length : Int) = b)) ?_ ?_
 ·by_cases hA : (vals.length : Int) = a
  rotate_left
  ·refine rq ?_; intro gd K hgd hK
   have hg5 : ∀ n σ b, wantV gd n σ (some (5, b)) = boolIs (ev n σ (.tmp 47)) b := (fun n σ b => by rw [wantV_some, show gd 5 = some 47 from (by rw [hgd]; rfl)]; rfl); have hg12 : ∀ n σ b, wantV gd n σ (some (12, b)) = boolIs (ev n σ (.tmp 54)) b := (fun n σ b => by rw [wantV_some, show gd 12 = some 54 from (by rw [hgd]; rfl)]; rfl); have hg15 : ∀ n σ b, wantV gd n σ (some (15, b)) = boolIs (ev n σ (.tmp 57)) b := (fun n σ b => by rw [wantV_some, show gd 15 = some 57 from (by rw [hgd]; rfl)]; rfl); have hg23 : ∀ n σ b, wantV gd n σ (some (23, b)) = boolIs (ev n σ (.tmp 65)) b := (fun n σ b => by rw [wantV_some, show gd 23 = some 65 from (by rw [hgd]; rfl)]; rfl)
   try simp (disch := first | omega | assumption | rfl) only [↓reduceIte, go_sem, Nat.reduceLT, Nat.reduceEqDiff, Nat.reduceSub, h1, h3, h4, h5, h6, p1, p2, p4, Nat.zero_add, decide_eq_false hA, Bool.not_true, Bool.not_false, bi_undef, ↓hg5, ↓hg12, ↓hg15, ↓hg23]
   refine hK _ _ ?_; clear hK hgd; clear K; try clear gd
   exact ⟨rfl, rfl, (vq1 h1), rfl, _, vr0, fun h => by cases h⟩
  by_cases hB : (d.nums.length : Int) = b
  rotate_left
  ·refine rq ?_; intro gd K hgd hK
   have hg5 : ∀ n σ b, wantV gd n σ (some (5, b)) = boolIs (ev n σ (.tmp 47)) b := (fun n σ b => by rw [wantV_some, show gd 5 = some 47 from (by rw [hgd]; rfl)]; rfl); have hg12 : ∀ n σ b, wantV gd n σ (some (12, b)) = boolIs (ev n σ (.tmp 54)) b := (fun n σ b => by rw [wantV_some, show gd 12 = some 54 from (by rw [hgd]; rfl)]; rfl); have hg15 : ∀ n σ b, wantV gd n σ (some (15, b)) = boolIs (ev n σ (.tmp 57)) b := (fun n σ b => by rw [wantV_some, show gd 15 = some 57 from (by rw [hgd]; rfl)]; rfl); have hg23 : ∀ n σ b, wantV gd n σ (some (23, b)) = boolIs (ev n σ (.tmp 65)) b := (fun n σ b => by rw [wantV_some, show gd 23 = some 65 from (by rw [hgd]; rfl)]; rfl)
   try simp (disch := first | omega | assumption | rfl) only [↓reduceIte, go_sem, Nat.reduceLT, Nat.reduceEqDiff, Nat.reduceSub, h1, h3, h4, h5, h6, p1, p2, p4, Nat.zero_add, decide_eq_true hA, decide_eq_false hB, Bool.not_true, Bool.not_false, bi_undef, ↓hg5, ↓hg12, ↓hg15, ↓hg23]
   refine hK _ _ ?_; clear hK hgd; clear K; try clear gd
   exact ⟨rfl, rfl, (vq1 h1), rfl, _, vr0, fun h => by cases h⟩
  by_cases hC : c ≥ 0
  ·by_cases hD : (d.raw.length : Int) = c
   ·refine rq ?_; intro gd K hgd hK
    have hg5 : ∀ n σ b, wantV gd n σ (some (5, b)) = boolIs (ev n σ (.tmp 47)) b := (fun n σ b => by rw [wantV_some, show gd 5 = some 47 from (by rw [hgd]; rfl)]; rfl); have hg12 : ∀ n σ b, wantV gd n σ (some (12, b)) = boolIs (ev n σ (.tmp 54)) b := (fun n σ b => by rw [wantV_some, show gd 12 = some 54 from (by rw [hgd]; rfl)]; rfl); have hg15 : ∀ n σ b, wantV gd n σ (some (15, b)) = boolIs (ev n σ (.tmp 57)) b := (fun n σ b => by rw [wantV_some, show gd 15 = some 57 from (by rw [hgd]; rfl)]; rfl); have hg23 : ∀ n σ b, wantV gd n σ (some (23, b)) = boolIs (ev n σ (.tmp 65)) b := (fun n σ b => by rw [wantV_some, show gd 23 = some 65 from (by rw [hgd]; rfl)]; rfl)
    try simp (disch := first | omega | assumption | rfl) only [↓reduceIte, go_sem, Nat.reduceLT, Nat.reduceEqDiff, Nat.reduceSub, h1, h3, h4, h5, h6, p1, p2, p4, Nat.zero_add, decide_eq_true hA, decide_eq_true hB, decide_eq_true hC, decide_eq_true hD, Bool.not_true, Bool.not_false, bi_undef, ↓hg5, ↓hg12, ↓hg15, ↓hg23]
    refine hK _ _ ?_; clear hK hgd; clear K; try clear gd
    exact ⟨rfl, rfl, (vq1 h1), rfl, _, vr0, fun _ => ⟨hA, hB⟩⟩
   ·refine rq ?_; intro gd K hgd hK
    have hg5 : ∀ n σ b, wantV gd n σ (some (5, b)) = boolIs (ev n σ (.tmp 47)) b := (fun n σ b => by rw [wantV_some, show gd 5 = some 47 from (by rw [hgd]; rfl)]; rfl); have hg12 : ∀ n σ b, wantV gd n σ (some (12, b)) = boolIs (ev n σ (.tmp 54)) b := (fun n σ b => by rw [wantV_some, show gd 12 = some 54 from (by rw [hgd]; rfl)]; rfl); have hg15 : ∀ n σ b, wantV gd n σ (some (15, b)) = boolIs (ev n σ (.tmp 57)) b := (fun n σ b => by rw [wantV_some, show gd 15 = some 57 from (by rw [hgd]; rfl)]; rfl); have hg23 : ∀ n σ b, wantV gd n σ (some (23, b)) = boolIs (ev n σ (.tmp 65)) b := (fun n σ b => by rw [wantV_some, show gd 23 = some 65 from (by rw [hgd]; rfl)]; rfl)
    try simp (disch := first | omega | assumption | rfl) only [↓reduceIte, go_sem, Nat.reduceLT, Nat.reduceEqDiff, Nat.reduceSub, h1, h3, h4, h5, h6, p1, p2, p4, Nat.zero_add, decide_eq_true hA, decide_eq_true hB, decide_eq_true hC, decide_eq_false hD, Bool.not_true, Bool.not_false, bi_undef, ↓hg5, ↓hg12, ↓hg15, ↓hg23]
    refine hK _ _ ?_; clear hK hgd; clear K; try clear gd
    exact ⟨rfl, rfl, (vq1 h1), rfl, _, vr0, fun h => by cases h⟩
  ·refine rq ?_; intro gd K hgd hK
   have hg5 : ∀ n σ b, wantV gd n σ (some (5, b)) = boolIs (ev n σ (.tmp 47)) b := (fun n σ b => by rw [wantV_some, show gd 5 = some 47 from (by rw [hgd]; rfl)]; rfl); have hg12 : ∀ n σ b, wantV gd n σ (some (12, b)) = boolIs (ev n σ (.tmp 54)) b := (fun n σ b => by rw [wantV_some, show gd 12 = some 54 from (by rw [hgd]; rfl)]; rfl); have hg15 : ∀ n σ b, wantV gd n σ (some (15, b)) = boolIs (ev n σ (.tmp 57)) b := (fun n σ b => by rw [wantV_some, show gd 15 = some 57 from (by rw [hgd]; rfl)]; rfl); have hg23 : ∀ n σ b, wantV gd n σ (some (23, b)) = boolIs (ev n σ (.tmp 65)) b := (fun n σ b => by rw [wantV_some, show gd 23 = some 65 from (by rw [hgd]; rfl)]; rfl)
   try simp (disch := first | omega | assumption | rfl) only [↓reduceIte, go_sem, Nat.reduceLT, Nat.reduceEqDiff, Nat.reduceSub, h1, h3, h4, h5, h6, p1, p2, p4, Nat.zero_add, decide_eq_true hA, decide_eq_true hB, decide_eq_false hC, Bool.not_true, Bool.not_false, bi_undef, ↓hg5, ↓hg12, ↓hg15, ↓hg23]
   refine hK _ _ ?_; clear hK hgd; clear K; try clear gd
   exact ⟨rfl, rfl, (vq1 h1), rfl, _, vr0, fun _ => ⟨hA, hB⟩⟩
 clear h1 h3 h4 h5 h6
 rintro _ σ3 _ v1 ⟨rfl, rfl, h1, hv1, b7, h68, hb7⟩
 rw [hv1]
 clear hv1 v1
 repeat refine c_r ?_
 refine W_cond (t := b7) ((vq1 h68)) ?_ ?_
 ·intro _
  repeat (first | refine c_r ?_ | refine rg0 ?_)
  refine rt0 Tryz.ntmps173 ?_
  exact ⟨hE1, 2, rfl, fun h => by cases h⟩
 intro hb
 obtain ⟨hA, hB⟩ := hb7 hb
 have hlead : leadT d.ty → d.names.length = 1 := fun h => by have := hca h; omega
 repeat refine c_r ?_
 refine rg0 ?_
 repeat refine c_r ?_
 refine W_mono (Q := fun e σ' ds' v' => ds' = [] ∧ Ext w1 v' ∧ ((e = .exit 0 ∧ σ' 1 = .pointer (some ⟨w.heap.size, 0, Option.none⟩) ∧ ∀ n ∈ d.names, checkN n = 0) ∨ (e = .ret ∧ ∃ e2 : Int, e2 ≠ 0 ∧ σ' 2 = vi e2))) ?_ ?_
 ·refine W_loop (fun m σ ds A => ds = [] ∧ ∃ (i : Nat), i + m = vals.length ∧ σ 7 = vi i ∧ σ 1 = .pointer (some ⟨w.heap.size, 0, Option.none⟩) ∧ Ext w1 A ∧ ∀ j (h : j < d.names.length), j < i → checkN d.names[j] = 0) vals.length ?_ ?_
  ·exact ⟨rfl, 0, by omega, vr0, (vq1 h1), Keep.refl _ _, fun j h hj => absurd hj (by omega)⟩
  clear h1
  rintro m σ ds A ⟨rfl, i, him, h7, h1, hEA, hlow⟩
  obtain ⟨q1, q3, q0, q2, q4⟩ := rd hEA
  repeat refine c_r ?_
  refine rg4 h7 h1 q1 Nat.zero_add ?_
  repeat refine c_r ?_
  refine wc0 ?_ ?_
  ·intro hlt
   simp only [decide_eq_true_eq] at hlt
   have hi : i < vals.length := by omega
   have hi0 : (0 : Int) ≤ (i : Int) := by omega
   have hi1 : (i : Int) < (vals.length : Int) := by omega
   have hi1' : (i : Int) + 1 = ((i + 1 : Nat) : Int) := by push_cast; rfl
   have hgi := hgn i hi
   obtain ⟨xN, rfl⟩ := Option.isSome_iff_exists.1 (some_of_cellO hgi)
   have hgi' := cellO_ext (hE0.trans (hE1.trans hEA)) hgi
   have hrow := hvr i hi (by omega)
   obtain ⟨n, hn⟩ : ∃ n, d.names[i]'(by omega) = n := ⟨_, rfl⟩
   rw [hn] at hrow
   have hnf := hf.names n (hn ▸ List.getElem_mem _)
   obtain ⟨hv, hhv⟩ : ∃ hv, vals[i] = hv := ⟨_, rfl⟩
   rw [hhv] at hgi' hrow
   repeat refine c_r ?_
   refine rq ?_; intro gd K hgd hK
   try simp (disch := first | omega | assumption | rfl) only [↓reduceIte, go_sem, Nat.reduceLT, Nat.reduceEqDiff, Nat.reduceSub, h7, h1, q1, Nat.zero_add, hi0, hi1, hgi']
   refine Fn.mono (RCheckName_ok A hv n (hrow.ext (hE0.trans (hE1.trans hEA))) hnf.1 hnf.2) ?_
   rintro _ A2 ⟨rfl, hA2⟩
   try simp (disch := first | omega | assumption | rfl) only [↓reduceIte, go_sem, Nat.reduceLT, Nat.reduceEqDiff, Nat.reduceSub]
   refine hK _ _ ?_; clear hK hgd; clear K; try clear gd
   repeat refine c_r ?_
   refine rg0 ?_
   repeat refine c_r ?_
   by_cases h0 : checkN n = 0
   ·rw [h0]
    refine W_cond (t := false) (vr0) (fun h => by cases h) ?_
    intro _
    repeat refine c_r ?_
    refine rg2 h7 hi1' ?_
    repeat refine c_r ?_
    refine ⟨m - 1, by omega, rfl, i + 1, by omega, vq0, (vq1 h1), hEA.trans hA2, fun j hj hji => ?_⟩
    by_cases hj2 : j = i
    ·subst hj2; rw [hn]; exact h0
    ·exact hlow j hj (by omega)
   ·refine W_cond (t := !decide (checkN n = 0)) (vr0) ?_ (fun h => by rw [decide_eq_false h0] at h; cases h)
    intro _
    repeat refine c_r ?_
    refine rg0 ?_
    repeat refine c_r ?_
    exact ⟨rfl, hEA.trans hA2, .inr ⟨rfl, checkN n, h0, vq0⟩⟩
  ·intro hge
   simp only [decide_eq_false_iff_not] at hge
   repeat refine c_r ?_
   refine ⟨rfl, hEA, .inl ⟨rfl, (vq1 h1), fun n hn => ?_⟩⟩
   obtain ⟨j, hj, rfl⟩ := List.getElem_of_mem hn
   exact hlow j hj (by omega)
 clear h1
 rintro e σ4 _ A ⟨rfl, hEA, ⟨rfl, h1, hall⟩ | ⟨rfl, e2, he2, h2⟩⟩
 rotate_left
 ·repeat refine c_r ?_
  refine rt1 h2 Tryz.ntmps173 ?_
  exact ⟨hE1.trans hEA, e2, rfl, fun h => absurd h he2⟩
 have fin : ∀ e : Int, e = 0 → (∀ n ∈ d.names, checkN n = 0) ∧ (leadT d.ty → d.names.length = 1) := fun e _ => ⟨hall, hlead⟩
 obtain ⟨q1, q3, q0, q2, q4⟩ := rd hEA
 repeat refine c_r ?_
 have hvl0 : (d.names.length : Int) = a := by omega
 refine W_mono (Q := fun e σ' ds' v' => e = .normal ∧ ds' = [] ∧ σ' 1 = .pointer (some ⟨w.heap.size, 0, Option.none⟩) ∧ v' = A ∧ ∃ bb, σ' 94 = .bool bb) ?_ ?_
 ·by_cases h15 : d.ty = 15
  ·have hb1 := hcb h15
   have hnu1 : (0 : Int) < (d.nums.length : Int) := by omega
   have hz0 : (0 : Int) ≤ 0 := by omega
   have hg0 := hgu 0 (by omega)
   obtain ⟨xU, rfl⟩ := Option.isSome_iff_exists.1 (some_of_cellO hg0)
   rw [adr_zero] at hg0
   have hg0' := cellO_ext (hE0.trans (hE1.trans hEA)) hg0
   rw [List.getElem_map] at hg0'
   refine rq ?_; intro gd K hgd hK
   have hg3 : ∀ n σ b, wantV gd n σ (some (3, b)) = boolIs (ev n σ (.tmp 88)) b := (fun n σ b => by rw [wantV_some, show gd 3 = some 88 from (by rw [hgd]; rfl)]; rfl)
   try simp (disch := first | omega | assumption | rfl) only [↓reduceIte, go_sem, Nat.reduceLT, Nat.reduceEqDiff, Nat.reduceSub, h1, q0, q2, Nat.add_zero, Nat.zero_add, decide_eq_true h15, hnu1, hz0, hg0', Nat.zero_mul, adr_zero, Int.toNat_zero, ↓hg3]
   refine hK _ _ ?_; clear hK hgd; clear K; try clear gd
   exact ⟨rfl, rfl, (vq1 h1), rfl, _, vr0⟩
  ·refine rq ?_; intro gd K hgd hK
   have hg3 : ∀ n σ b, wantV gd n σ (some (3, b)) = boolIs (ev n σ (.tmp 88)) b := (fun n σ b => by rw [wantV_some, show gd 3 = some 88 from (by rw [hgd]; rfl)]; rfl)
   try simp (disch := first | omega | assumption | rfl) only [↓reduceIte, go_sem, Nat.reduceLT, Nat.reduceEqDiff, Nat.reduceSub, h1, q0, Nat.add_zero, decide_eq_false h15, ↓hg3]
   refine hK _ _ ?_; clear hK hgd; clear K; try clear gd
   exact ⟨rfl, rfl, (vq1 h1), rfl, _, vr0⟩
 clear h1
 rintro _ σ5 _ v1 ⟨rfl, rfl, h1, hv1, b94, h94⟩
 rw [hv1]
 clear hv1 v1
 repeat refine c_r ?_
 refine W_cond (t := b94) ((vq1 h94)) ?_ ?_
 ·intro _
  repeat (first | refine c_r ?_ | refine rg0 ?_)
  refine rt0 Tryz.ntmps173 ?_
  exact ⟨hE1.trans hEA, 7, rfl, fun h => by cases h⟩
 intro _
 repeat refine c_r ?_
 refine rg0 ?_
 repeat refine c_r ?_
 refine W_mono (Q := fun e σ' ds' v' => ds' = [] ∧ v' = A ∧ ((e = .exit 2 ∧ σ' 1 = .pointer (some ⟨w.heap.size, 0, Option.none⟩)) ∨ (e = .ret ∧ σ' 2 = vi 3))) ?_ ?_
 ·refine W_loop (fun m σ ds B => ds = [] ∧ ∃ (i : Nat), i + m = d.texts.length ∧ σ 9 = vi i ∧ σ 1 = .pointer (some ⟨w.heap.size, 0, Option.none⟩) ∧ B = A) d.texts.length ?_ ?_
  ·exact ⟨rfl, 0, by omega, vr0, (vq1 h1), rfl⟩
  clear h1
  rintro m σ ds B ⟨rfl, i, him, h9, h1, hB2⟩
  rw [hB2]
  clear hB2 B
  repeat refine c_r ?_
  refine rg4 h9 h1 q3 Nat.zero_add ?_
  repeat refine c_r ?_
  refine wc0 ?_ ?_
  ·intro hlt
   simp only [decide_eq_true_eq] at hlt
   have hi : i < d.texts.length := by omega
   have hi0 : (0 : Int) ≤ (i : Int) := by omega
   have hi1 : (i : Int) < (d.texts.length : Int) := by omega
   have hi1' : (i : Int) + 1 = ((i + 1 : Nat) : Int) := by push_cast; rfl
   have hgi := hgt i hi
   obtain ⟨xT, rfl⟩ := Option.isSome_iff_exists.1 (some_of_cellO hgi)
   have hgi' := cellO_ext (hE0.trans (hE1.trans hEA)) hgi
   rw [List.getElem_map] at hgi'
   have htl := hf.tl _ (List.getElem_mem hi)
   repeat refine c_r ?_
   refine rg7 h9 h1 q3 Nat.zero_add hi0 hi1 hgi' ?_
   repeat refine c_r ?_
   refine wc0 ?_ ?_
   ·intro hgt2
    repeat refine c_r ?_
    refine rg0 ?_
    repeat refine c_r ?_
    exact ⟨rfl, rfl, .inr ⟨rfl, vq0⟩⟩
   ·intro hgt2
    repeat refine c_r ?_
    refine rg2 h9 hi1' ?_
    repeat refine c_r ?_
    exact ⟨m - 1, by omega, rfl, i + 1, by omega, vq0, (vq1 h1), rfl⟩
  ·intro hge
   repeat refine c_r ?_
   exact ⟨rfl, rfl, .inl ⟨rfl, (vq1 h1)⟩⟩
 clear h1
 rintro e σ6 _ v1 ⟨rfl, hv1, ⟨rfl, h1⟩ | ⟨rfl, h2⟩⟩
 rotate_left
 ·rw [hv1]
  repeat refine c_r ?_
  refine rt1 h2 Tryz.ntmps173 ?_
  exact ⟨hE1.trans hEA, 3, rfl, fun h => by cases h⟩
 rw [hv1]
 clear hv1 v1
 repeat refine c_r ?_
 refine rg3 h1 q4 Nat.zero_add ?_
 repeat refine c_r ?_
 refine wc0 ?_ ?_
 ·intro _
  repeat (first | refine c_r ?_ | refine rg0 ?_)
  refine rt0 Tryz.ntmps173 ?_
  exact ⟨hE1.trans hEA, 3, rfl, fun h => by cases h⟩
 intro _
 repeat (first | refine c_r ?_ | refine rg0 ?_)
 refine rt0 Tryz.ntmps173 ?_
 exact ⟨hE1.trans hEA, 0, rfl, fin 0⟩
end Go.Proofs.YtopbbjdembnfdaaGreat

namespace Go.Proofs.YtopbbjdembnfdaaGreat
open Go
set_option maxRecDepth 10000

structure DatX (w0 : World) (B : Nat) (A : World) (nm : Value) (cs : List Value) (d : DatL) : Prop where
 ex : ∃ nu tx rw vals, cs = [vi d.ty, nm, nu, tx, rw] ∧ Row A nm vals ∧ vals.length = d.names.length ∧ (∀ i (h : i < vals.length) (h' : i < d.names.length), Row w0 vals[i] (d.names[i].map vs)) ∧ Row w0 nu (d.nums.map v32) ∧ Row w0 tx (d.texts.map vs) ∧ Row w0 rw (d.raw.map byteV)
 blk : BlkB B A nm
theorem DatX.at {w0 A : World} {B : Nat} {nm : Value} {cs : List Value} {d : DatL} (h : DatX w0 B A nm cs d) (hE : Ext w0 A) : DatAt A cs d := by
 obtain ⟨nu, tx, rw, vals, e, h1, h2, h3, h4, h5, h6⟩ := h.ex
 exact ⟨nm, nu, tx, rw, e, ⟨vals, h1, h2, fun i a b => (h3 i a b).ext hE⟩, h4.ext hE, h5.ext hE, h6.ext hE⟩
theorem DatX.keep {w0 A x : World} {B : Nat} {nm : Value} {cs : List Value} {d : DatL} (h : DatX w0 B A nm cs d) {S : Nat → Prop} (hk : Keep S A x) (hS : ∀ a n c, nm = .slice (some a) n c → ¬ S a.block) : DatX w0 B x nm cs d := by
 obtain ⟨nu, tx, rw, vals, e, h1, h2, h3, h4, h5, h6⟩ := h.ex
 exact ⟨⟨nu, tx, rw, vals, e, h1.blocks fun a n c hv => hk.block _ (h.blk a n c hv).2 (hS a n c hv), h2, h3, h4, h5, h6⟩, h.blk.ext hk.size⟩
theorem DatX.mono {w0 A : World} {B B' : Nat} {nm : Value} {cs : List Value} {d : DatL} (h : DatX w0 B A nm cs d) (hB : B' ≤ B) : DatX w0 B' A nm cs d := ⟨h.ex, h.blk.mono hB⟩

set_option maxHeartbeats 1000000 in
theorem DOf_ok {w0 w : World} (hE0 : Ext w0 w) {cs : List Value} {d : DatL} (hd : DatAt w0 cs d) (hnn : d.names.length ≤ 1000000000) :
  Fn Tryz.prog 78 #[.agg cs.toArray] w (fun v w' => Ext w w' ∧ ∃ cs' nm, v = .agg cs'.toArray ∧ DatX w0 w.heap.size w' nm cs' d) := by
 obtain ⟨nm, nu, tx, rw', rfl, ⟨vals, ⟨an, cn, rfl, hcn, hgn⟩, hvl, hvr⟩, hnu, htx, hrw⟩ := hd.ex
 obtain ⟨au, cu, rfl, _⟩ := id hnu
 obtain ⟨at1, ct, rfl, _⟩ := id htx
 obtain ⟨ar, cr, rfl, _⟩ := id hrw
 refine enter Tryz.func78 Tryz.ntmps78 rfl rfl ?_
 repeat refine c_r ?_
 refine rg0 ?_
 repeat refine c_r ?_
 rw [new_size]
 refine W_alloc2 ?_
 intro w1 hE1 hs1 hA hC
 have p0 : cellO w1 (some ⟨w.heap.size, 0, Option.none⟩) = some (vi d.ty) := cellO_at hA rfl
 have p1 : cellO w1 (some ⟨w.heap.size, 1, Option.none⟩) = some (.slice an vals.length cn) := cellO_at hA rfl
 have p2 : cellO w1 (some ⟨w.heap.size, 2, Option.none⟩) = some (.slice au (d.nums.map v32).length cu) := cellO_at hA rfl
 have p3 : cellO w1 (some ⟨w.heap.size, 3, Option.none⟩) = some (.slice at1 (d.texts.map vs).length ct) := cellO_at hA rfl
 have p4 : cellO w1 (some ⟨w.heap.size, 4, Option.none⟩) = some (.slice ar (d.raw.map byteV).length cr) := cellO_at hA rfl
 refine rq ?_; intro gd K hgd hK
 try simp (disch := first | omega | assumption | rfl) only [↓reduceIte, go_sem, Nat.reduceLT, Nat.reduceEqDiff, Nat.reduceSub, p0, p2, p3, p4, Nat.add_zero, Nat.zero_add]
 refine ⟨by kernel_rfl, ?_⟩
 rw [show bdV Tryz.prog 132 [(0, vi d.ty), (2, .slice au (d.nums.map v32).length cu), (3, .slice at1 (d.texts.map vs).length ct), (4, .slice ar (d.raw.map byteV).length cr)] = some (.agg #[vi d.ty, .slice Option.none 0 0, .slice au (d.nums.map v32).length cu, .slice at1 (d.texts.map vs).length ct, .slice ar (d.raw.map byteV).length cr]) from by kernel_rfl]
 try simp (disch := first | omega | assumption | rfl) only [↓reduceIte, go_sem, Nat.reduceLT, Nat.reduceEqDiff, Nat.reduceSub]
 have hB3 := new_block w1 (.cells #[vi 0, .slice Option.none 0 0, .slice Option.none 0 0, .slice Option.none 0 0, .slice Option.none 0 0] 132 (0, 0))
 have hE4 := Ext.alloc w1 (.cells #[vi 0, .slice Option.none 0 0, .slice Option.none 0 0, .slice Option.none 0 0, .slice Option.none 0 0] 132 (0, 0))
 have hs4 := new_size w1 (.cells #[vi 0, .slice Option.none 0 0, .slice Option.none 0 0, .slice Option.none 0 0, .slice Option.none 0 0] 132 (0, 0))
 revert hB3 hE4 hs4
 generalize w1.alloc (.cells #[vi 0, .slice Option.none 0 0, .slice Option.none 0 0, .slice Option.none 0 0, .slice Option.none 0 0] 132 (0, 0)) = w2
 intro hB3 hE4 hs4
 refine sv_all (P := Tryz.prog) (t := 132) (l := [vi d.ty, .slice Option.none 0 0, .slice au (d.nums.map v32).length cu, .slice at1 (d.texts.map vs).length ct, .slice ar (d.raw.map byteV).length cr]) hB3 rfl (fun v h => by simp at h; rcases h with rfl | rfl | rfl | rfl | rfl <;> rfl) rfl rfl ?_
 intro w3 hs5 hB5 hk5
 try simp (disch := first | omega | assumption | rfl) only [↓reduceIte, go_sem, Nat.reduceLT, Nat.reduceEqDiff, Nat.reduceSub]
 refine hK _ _ ?_; clear hK hgd; clear K; try clear gd
 have hE13 : Ext w1 w3 := Keep.to_ext hE4 rfl (fun b hb => by omega) hk5
 obtain ⟨b3, hb3⟩ : ∃ b3, w1.heap.size = b3 := ⟨_, rfl⟩
 rw [hb3] at hB5
 have hs3 : w3.heap.size = b3 + 1 := by omega
 repeat refine c_r ?_
 refine rg0 ?_
 repeat refine c_r ?_
 rw [hb3]
 refine W_loop (fun m σ ds A => ds = [] ∧ ∃ (i : Nat) (nv : Value), i + m = vals.length ∧ σ 4 = vi i ∧ σ 1 = .pointer (some ⟨w.heap.size, 0, Option.none⟩) ∧ σ 2 = .pointer (some ⟨w.heap.size + 1, 0, Option.none⟩) ∧ σ 3 = .pointer (some ⟨b3, 0, Option.none⟩) ∧ A.heap[b3]? = some (.cells [vi d.ty, nv, .slice au (d.nums.map v32).length cu, .slice at1 (d.texts.map vs).length ct, .slice ar (d.raw.map byteV).length cr].toArray 132 (0, 0)) ∧ Own w3.heap.size A 22 nv (vals.take i) ∧ Ext w1 A ∧ w3.heap.size ≤ A.heap.size) vals.length ?_ ?_
 ·exact ⟨rfl, 0, .slice Option.none 0 0, by omega, vr0, vq0, vq0, vq0, hB5, Own.nil _ _ _, hE13, Nat.le_refl _⟩
 rintro m σ ds A ⟨rfl, i, nv, him, h4, h1, h2, h3, hb, hown, hEA, hsA⟩
 have q1 := cellO_ext hEA p1
 have s1 := hE1.size
 repeat refine c_r ?_
 refine rg4 h4 h1 q1 Nat.zero_add ?_
 repeat refine c_r ?_
 refine wc0 ?_ ?_
 ·intro hlt
  simp only [decide_eq_true_eq] at hlt
  have hi : i < vals.length := by omega
  have hi0 : (0 : Int) ≤ (i : Int) := by omega
  have hi1 : (i : Int) < (vals.length : Int) := by omega
  have hi1' : (i : Int) + 1 = ((i + 1 : Nat) : Int) := by push_cast; rfl
  have hgi := hgn i hi
  obtain ⟨xN, rfl⟩ := Option.isSome_iff_exists.1 (some_of_cellO hgi)
  obtain ⟨xi, hxi⟩ : ∃ xi, adr (some xN) i = some xi := ⟨_, rfl⟩
  rw [hxi] at hgi
  have hgA := cellO_ext (hE0.trans (hE1.trans hEA)) hgi
  have hxb : xi.block < w3.heap.size := by
   have := cell_lt (show w0.cell? xi = some _ from hgi)
   have := (hE0.trans (hE1.trans hE13)).size
   omega
  have hrow := hvr i hi (by omega)
  obtain ⟨hv, hhv⟩ : ∃ hv, vals[i] = hv := ⟨_, rfl⟩
  rw [hhv] at hgA hrow
  obtain ⟨ha, hc, hve, _⟩ := id hrow
  have hone : one hv = true := by rw [hve]; rfl
  have htk : vals.take (i + 1) = vals.take i ++ [hv] := by rw [take_succ' hi, hhv]
  have hnv : cellO A (some ⟨b3, 1, Option.none⟩) = some nv := sv_get hb rfl
  have hvals : (vals.take i).length ≤ 1000000000 := by rw [List.length_take]; omega
  repeat refine c_r ?_
  refine W_drw (fun i => i == 10) [(0, true), (1, true), (2, true), (3, true), (4, true), (5, true), (6, true), (7, false), (8, false), (9, true), (10, false)] (above w3.heap.size) mixed (by kernel_rfl) ?_; intro gd K x hgd hx hxe hK; have hx0 := drewX hxe; clear hxe
  have hgx := cellO_ext hx0 hgA
  have hnx := cellO_ext hx0 hnv
  have q1x := cellO_ext hx0 q1
  have hxs := hx.size
  simp (disch := first | omega | assumption | rfl) only [↓reduceIte, go_sem, Nat.reduceLT, Nat.reduceEqDiff, Nat.reduceSub, h4, h1, h3, q1x, hgx, hnx, hi0, hi1, hxi, Nat.zero_add, Nat.mul_one]
  refine ⟨off_at (by omega), off_at (by omega), off_of hxb, ?_⟩
  refine bs_one (z := .slice Option.none 0 0) (v := hv) (by rfl) (by rfl) (by rfl) (by rfl) (by rw [hve]; rfl) ?_
  intro w5 hE5 hs5 ho5
  refine ⟨.inr hE5.keep, ?_⟩
  simp (disch := first | omega | assumption | rfl) only [↓reduceIte, go_sem, Nat.reduceLT, Nat.reduceEqDiff, Nat.reduceSub]
  have hx5 := hx0.trans hE5
  have hx5s := hx5.size
  refine op_app (hown.ext hx5) ho5.row rfl rfl rfl rfl rfl rfl (vr0) (vr0) (fun q hq => by rw [List.mem_singleton.1 hq]; exact hone) (by rw [List.length_singleton]; omega) (by decide) (by omega) ?_
  intro v7 w7 ho7 hE7 hk7 hb7
  refine ⟨.inr (hk7.mono fun b _ hb => by have := (hown.ge hb).1; show _ ≤ _; omega), ?_⟩
  simp (disch := first | omega | assumption | rfl) only [↓reduceIte, go_sem, Nat.reduceLT, Nat.reduceEqDiff, Nat.reduceSub, h3]
  have hk7s := hk7.size
  obtain ⟨a7, c7, hv7⟩ := ho7.slice
  have hb3w : w7.heap[b3]? = some (.cells [vi d.ty, nv, .slice au (d.nums.map v32).length cu, .slice at1 (d.texts.map vs).length ct, .slice ar (d.raw.map byteV).length cr].toArray 132 (0, 0)) := (hk7.block b3 (by omega) (fun h => by have := (hown.ge h).1; omega)).trans (Ext.at hx5 hb)
  refine sv_at (P := Tryz.prog) (t := 93) (j := 1) (l := [vi d.ty, nv, .slice au (d.nums.map v32).length cu, .slice at1 (d.texts.map vs).length ct, .slice ar (d.raw.map byteV).length cr]) hb3w (by simp) (by rw [hv7]; rfl) rfl rfl ?_
  intro z hz' hbz hkz
  refine ⟨.inl rfl, ?_⟩
  simp (disch := first | omega | assumption | rfl) only [↓reduceIte, go_sem, Nat.reduceLT, Nat.reduceEqDiff, Nat.reduceSub]
  refine hK _ _ ?_; clear hK hgd; clear K; try clear gd
  have hEz : Ext w1 z := Keep.to_ext (hE7 w1 (hEA.trans hx5) (by omega)) rfl (fun b hb => by omega) hkz
  repeat refine c_r ?_
  refine rg2 h4 hi1' ?_
  repeat refine c_r ?_
  exact ⟨m - 1, by omega, rfl, i + 1, v7, by omega, vq0, (vq1 h1), (vq1 h2), (vq1 h3), hbz, by rw [htk]; exact ho7.keep hkz (fun b hb h => by have := (ho7.ge hb).1; omega), hEz, by omega⟩
 ·intro hge
  simp only [decide_eq_false_iff_not] at hge
  have hi : i = vals.length := by omega
  rw [hi, List.take_length] at hown
  obtain ⟨na, nc, hnv⟩ := hown.slice
  repeat refine c_r ?_
  refine rq ?_; intro gd K hgd hK
  have d5 := sv_cells (n := 5) hb rfl
  try simp (disch := first | omega | assumption | rfl) only [↓reduceIte, go_sem, Nat.reduceLT, Nat.reduceEqDiff, Nat.reduceSub, h3, h2, d5]
  refine sv_all (P := Tryz.prog) (t := 132) (l := [vi d.ty, nv, .slice au (d.nums.map v32).length cu, .slice at1 (d.texts.map vs).length ct, .slice ar (d.raw.map byteV).length cr]) (Ext.at hEA hC) rfl (fun v h => by
   simp at h
   rcases h with rfl | rfl | rfl | rfl | rfl
   ·rfl
   ·rw [hnv]; rfl
   ·rfl
   ·rfl
   ·rfl) rfl rfl ?_
  intro z hz' hbz hkz
  try simp (disch := first | omega | assumption | rfl) only [↓reduceIte, go_sem, Nat.reduceLT, Nat.reduceEqDiff, Nat.reduceSub]
  refine hK _ _ ?_; clear hK hgd; clear K; try clear gd
  repeat refine c_r ?_
  refine ret_any (.inr rfl) Tryz.ntmps78 rfl (res_agg (x := ⟨w.heap.size + 1, 0, Option.none⟩) (k := 5) ((vq1 h2)) rfl rfl (sv_cells hbz rfl) res_nil) ?_
  have hEz : Ext w z := Keep.to_ext (hE1.trans hEA) rfl (fun b hb => by omega) hkz
  have hownz := hown.keep hkz (fun b hb h => by have := (hown.ge hb).1; omega)
  refine ⟨hEz, _, nv, rfl, ⟨⟨_, _, _, vals, rfl, hownz.row, hvl, hvr, hnu, htx, hrw⟩, fun a n c hv => ?_⟩⟩
  have := hownz.ge (b := a.block) (by rw [hv]; rfl)
  omega
end Go.Proofs.YtopbbjdembnfdaaGreat

namespace Go.Proofs.YtopbbjdembnfdaaGreat
open Go
set_option maxRecDepth 10000

theorem DatAt.open {w : World} {cs : List Value} {d : DatL} (h : DatAt w cs d) : ∃ a1 n1 c1 a2 n2 c2 a3 n3 c3 a4 n4 c4, cs = [vi d.ty, .slice a1 n1 c1, .slice a2 n2 c2, .slice a3 n3 c3, .slice a4 n4 c4] := by
 obtain ⟨nm, nu, tx, rw', rfl, ⟨vals, ⟨an, cn, rfl, _⟩, _⟩, ⟨au, cu, rfl, _⟩, ⟨at1, ct, rfl, _⟩, ⟨ar, cr, rfl, _⟩⟩ := h.ex
 exact ⟨_, _, _, _, _, _, _, _, _, _, _, _, rfl⟩

theorem DatX.open {w0 A : World} {B : Nat} {nm : Value} {cs : List Value} {d : DatL} (h : DatX w0 B A nm cs d) : ∃ a1 n1 c1 a2 n2 c2 a3 n3 c3 a4 n4 c4, cs = [vi d.ty, .slice a1 n1 c1, .slice a2 n2 c2, .slice a3 n3 c3, .slice a4 n4 c4] := by
 obtain ⟨nu, tx, rw, vals, e, ⟨a1, c1, rfl, _⟩, h2, h3, ⟨a4, c4, rfl, _⟩, ⟨a5, c5, rfl, _⟩, ⟨a6, c6, rfl, _⟩⟩ := h.ex
 exact ⟨_, _, _, _, _, _, _, _, _, _, _, _, e⟩
structure RecX (w0 : World) (B : Nat) (A : World) (nm : Value) (cs : List Value) (r : RecL) : Prop where
 ex : ∃ ow ds, cs = ow :: v32 r.ttl :: ds ∧ Row w0 ow (r.owner.map vs) ∧ DatX w0 B A nm ds r.dat
theorem RecX.at {w0 A : World} {B : Nat} {nm : Value} {cs : List Value} {r : RecL} (h : RecX w0 B A nm cs r) (hE : Ext w0 A) : RecAt A cs r := by
 obtain ⟨ow, ds, e, h1, h2⟩ := h.ex
 exact ⟨ow, ds, e, h1.ext hE, h2.at hE⟩
theorem RecX.keep {w0 A x : World} {B : Nat} {nm : Value} {cs : List Value} {r : RecL} (h : RecX w0 B A nm cs r) {S : Nat → Prop} (hk : Keep S A x) (hS : ∀ a n c, nm = .slice (some a) n c → ¬ S a.block) : RecX w0 B x nm cs r := by
 obtain ⟨ow, ds, e, h1, h2⟩ := h.ex
 exact ⟨ow, ds, e, h1, h2.keep hk hS⟩
theorem RecX.mono {w0 A : World} {B B' : Nat} {nm : Value} {cs : List Value} {r : RecL} (h : RecX w0 B A nm cs r) (hB : B' ≤ B) : RecX w0 B' A nm cs r := by
 obtain ⟨ow, ds, e, h1, h2⟩ := h.ex
 exact ⟨ow, ds, e, h1, h2.mono hB⟩
theorem RecX.blk {w0 A : World} {B : Nat} {nm : Value} {cs : List Value} {r : RecL} (h : RecX w0 B A nm cs r) : BlkB B A nm := by
 obtain ⟨ow, ds, e, h1, h2⟩ := h.ex
 exact h2.blk
theorem RecX.cells {w0 A : World} {B : Nat} {nm : Value} {cs : List Value} {r : RecL} (h : RecX w0 B A nm cs r) : cs.length = 7 ∧ ∀ q ∈ cs, one q = true := by
 obtain ⟨ow, ds, e, ⟨a, c, rfl, _⟩, h2⟩ := h.ex
 obtain ⟨b1, m1, e1, b2, m2, e2, b3, m3, e3, b4, m4, e4, hds⟩ := h2.open
 rw [e, hds]
 refine ⟨rfl, fun q hq => ?_⟩
 simp at hq
 rcases hq with rfl | rfl | rfl | rfl | rfl | rfl | rfl <;> rfl

set_option maxHeartbeats 1000000 in
theorem RcOf_ok {w0 w : World} (hE0 : Ext w0 w) {cs : List Value} {r : RecL} (hr : RecAt w0 cs r) (hnn : r.dat.names.length ≤ 1000000000) :
  Fn Tryz.prog 76 #[.agg cs.toArray] w (fun v w' => Ext w w' ∧ ∃ cs' nm, v = .agg cs'.toArray ∧ RecX w0 w.heap.size w' nm cs' r) := by
 obtain ⟨ow, ds, rfl, h1, h2⟩ := hr.ex
 obtain ⟨oa, oc, how, _⟩ := id h1
 obtain ⟨on, hon⟩ : ∃ on, (r.owner.map vs).length = on := ⟨_, rfl⟩
 rw [hon] at how
 obtain ⟨b1, m1, e1, b2, m2, e2, b3, m3, e3, b4, m4, e4, hds⟩ := h2.open
 rw [hds, how]
 refine enter Tryz.func76 Tryz.ntmps76 rfl rfl ?_
 repeat refine c_r ?_
 refine rg0 ?_
 repeat refine c_r ?_
 rw [new_size]
 refine W_alloc2 ?_
 intro w1 hE1 hs1 hA hC
 have p0 : cellO w1 (some ⟨w.heap.size, 0, Option.none⟩) = some (.slice oa on oc) := cellO_at hA rfl
 have p1 : cellO w1 (some ⟨w.heap.size, 1, Option.none⟩) = some (v32 r.ttl) := cellO_at hA rfl
 have p2 : cellsO w1 (some ⟨w.heap.size, 2, Option.none⟩) 5 = some [vi r.dat.ty, .slice b1 m1 e1, .slice b2 m2 e2, .slice b3 m3 e3, .slice b4 m4 e4] := by
  have h7 := sv_cells (n := 7) (l := [.slice oa on oc, v32 r.ttl, vi r.dat.ty, .slice b1 m1 e1, .slice b2 m2 e2, .slice b3 m3 e3, .slice b4 m4 e4]) hA rfl
  have := cells_drop (m := 2) (k := 5) h7
  rwa [adr_some] at this
 refine W_drw (fun i => i == 8) [(0, true), (1, true), (2, true), (3, true), (4, true), (5, true), (6, false), (7, true), (8, false)] NoS mixed (by kernel_rfl) ?_; intro gd K x hgd hx hxe hK; clear hxe
 have p0x := cellO_ext hx p0
 have p1x := cellO_ext hx p1
 have p2x := cellsO_ext hx p2
 have hxs := hx.size
 simp (disch := first | omega | assumption | rfl) only [↓reduceIte, go_sem, Nat.reduceLT, Nat.reduceEqDiff, Nat.reduceSub, p0x, p1x, p2x, Nat.add_zero, Nat.zero_add]
 rw [← hds]
 refine Fn.mono (DOf_ok (hE0.trans (hE1.trans hx)) h2 hnn) ?_
 rintro _ w2 ⟨hE2, cs', nm', rfl, hd'⟩
 refine ⟨.inr hE2, ?_⟩
 obtain ⟨b1', m1', e1', b2', m2', e2', b3', m3', e3', b4', m4', e4', hds'⟩ := hd'.open
 rw [hds']
 simp (disch := first | omega | assumption | rfl) only [↓reduceIte, go_sem, Nat.reduceLT, Nat.reduceEqDiff, Nat.reduceSub, p0x, p1x, p2x, Nat.add_zero, Nat.zero_add]
 refine ⟨by kernel_rfl, ?_⟩
 rw [show bdV Tryz.prog 139 [(0, .slice oa on oc), (1, v32 r.ttl), (2, .agg [vi r.dat.ty, .slice b1' m1' e1', .slice b2' m2' e2', .slice b3' m3' e3', .slice b4' m4' e4'].toArray)] = some (.agg #[.slice oa on oc, v32 r.ttl, vi r.dat.ty, .slice b1' m1' e1', .slice b2' m2' e2', .slice b3' m3' e3', .slice b4' m4' e4']) from by kernel_rfl]
 simp (disch := first | omega | assumption | rfl) only [↓reduceIte, go_sem, Nat.reduceLT, Nat.reduceEqDiff, Nat.reduceSub]
 refine sv_all (P := Tryz.prog) (t := 139) (l := [.slice oa on oc, v32 r.ttl, vi r.dat.ty, .slice b1' m1' e1', .slice b2' m2' e2', .slice b3' m3' e3', .slice b4' m4' e4']) (Ext.at (hx.trans hE2) hC) rfl (fun v h => by simp at h; rcases h with rfl | rfl | rfl | rfl | rfl | rfl | rfl <;> rfl) rfl rfl ?_
 intro z hz' hbz hkz
 refine ⟨.inl rfl, ?_⟩
 simp (disch := first | omega | assumption | rfl) only [↓reduceIte, go_sem, Nat.reduceLT, Nat.reduceEqDiff, Nat.reduceSub]
 refine hK _ _ ?_; clear hK hgd; clear K; try clear gd
 repeat refine c_r ?_
 refine ret_any (.inr rfl) Tryz.ntmps76 rfl (res_agg (x := ⟨w.heap.size + 1, 0, Option.none⟩) (k := 7) (vq0) rfl rfl (sv_cells hbz rfl) res_nil) ?_
 have hEz : Ext w z := Keep.to_ext (hE1.trans (hx.trans hE2)) rfl (fun b hb => by omega) hkz
 refine ⟨hEz, _, nm', rfl, ⟨ow, cs', ?_, h1, ?_⟩⟩
 ·rw [how, hds']
 ·exact (hd'.keep hkz (fun a n c hv => by have := hd'.blk a n c hv; omega)).mono (by omega)

abbrev OX := RecL × (Value × List Value)
def oxC (cs : List Value) (x : OX) : Prop := cs = x.2.2 ∧ cs.length = 7 ∧ ∀ q ∈ cs, one q = true
structure OI (w0 : World) (B : Nat) (A : World) (ov : Value) (G : List OX) : Prop where
 own : Owns 7 oxC B A 139 ov G
 row : ∀ x ∈ G, RecX w0 B A x.2.1 x.2.2 x.1 ∧ ∀ a n c, x.2.1 = .slice (some a) n c → some a.block ≠ ov.ownBlock
theorem OI.ext {w0 A A' : World} {B : Nat} {ov : Value} {G : List OX} (h : OI w0 B A ov G) (hE : Ext A A') : OI w0 B A' ov G :=
 ⟨h.own.ext hE, fun x hx => by
  obtain ⟨h1, h2⟩ := h.row x hx
  exact ⟨h1.keep hE (fun a n c hv h => h), h2⟩⟩
end Go.Proofs.YtopbbjdembnfdaaGreat

namespace Go.Proofs.YtopbbjdembnfdaaGreat
open Go
set_option maxRecDepth 10000

theorem RCheckRec_ok {w0 w : World} (hE0 : Ext w0 w) {cs : List Value} {r : RecL} (hr : RecAt w0 cs r) (hf : DatF r.dat) (ho : (∀ l ∈ r.owner, l.length ≤ 1000000000) ∧ r.owner.length ≤ 1000000000) :
  Fn Tryz.prog 122 #[.agg cs.toArray] w (fun v w' => Ext w w' ∧ ∃ e : Int, v = vi e ∧ (e = 0 → checkN r.owner = 0 ∧ (∀ n ∈ r.dat.names, checkN n = 0) ∧ (leadT r.dat.ty → r.dat.names.length = 1))) := by
 obtain ⟨ow, ds, rfl, h1, h2⟩ := hr.ex
 obtain ⟨b1, m1, e1, b2, m2, e2, b3, m3, e3, b4, m4, e4, hds⟩ := h2.open
 rw [hds]
 refine enter Tryz.func122 Tryz.ntmps122 rfl rfl ?_
 repeat refine c_r ?_
 refine rg0 ?_
 repeat refine c_r ?_
 refine W_alloc1 ?_
 intro w1 hE1 hs1 hA
 have p0 : cellO w1 (some ⟨w.heap.size, 0, Option.none⟩) = some ow := cellO_at hA rfl
 have p1 : cellO w1 (some ⟨w.heap.size, 1, Option.none⟩) = some (v32 r.ttl) := cellO_at hA rfl
 have p2 : cellsO w1 (some ⟨w.heap.size, 2, Option.none⟩) 5 = some ds := by
  have h7 := sv_cells (n := 7) (l := [ow, v32 r.ttl, vi r.dat.ty, .slice b1 m1 e1, .slice b2 m2 e2, .slice b3 m3 e3, .slice b4 m4 e4]) hA rfl
  have := cells_drop (m := 2) (k := 5) h7
  rw [adr_some] at this
  rw [hds]; exact this
 refine rq ?_; intro gd K hgd hK
 try simp (disch := first | omega | assumption | rfl) only [↓reduceIte, go_sem, Nat.reduceLT, Nat.reduceEqDiff, Nat.reduceSub, p0, Nat.add_zero]
 refine Fn.mono (RCheckName_ok w1 ow r.owner (h1.ext (hE0.trans hE1)) ho.1 ho.2) ?_
 rintro _ w2 ⟨rfl, hE2⟩
 try simp (disch := first | omega | assumption | rfl) only [↓reduceIte, go_sem, Nat.reduceLT, Nat.reduceEqDiff, Nat.reduceSub]
 refine hK _ _ ?_; clear hK hgd; clear K; try clear gd
 have hE12 := hE1.trans hE2
 have p1' := cellO_ext hE2 p1
 have p2' := cellsO_ext hE2 p2
 repeat refine c_r ?_
 refine rg0 ?_
 repeat refine c_r ?_
 by_cases h0 : checkN r.owner = 0
 rotate_left
 ·refine W_cond (t := !decide (checkN r.owner = 0)) (vr0) ?_ (fun h => by rw [decide_eq_false h0] at h; cases h)
  intro _
  repeat refine c_r ?_
  refine rg0 ?_
  repeat refine c_r ?_
  refine rt0 Tryz.ntmps122 ?_
  exact ⟨hE12, _, rfl, fun h => absurd h h0⟩
 refine W_cond (t := !decide (checkN r.owner = 0)) (vr0) (fun h => by rw [decide_eq_true h0] at h; cases h) ?_
 intro _
 repeat refine c_r ?_
 refine rg2 p1' Nat.zero_add ?_
 repeat refine c_r ?_
 refine wc0 ?_ ?_
 ·intro _
  repeat (first | refine c_r ?_ | refine rg0 ?_)
  refine rt0 Tryz.ntmps122 ?_
  exact ⟨hE12, 7, rfl, fun h => by cases h⟩
 intro _
 repeat refine c_r ?_
 refine rq ?_; intro gd K hgd hK
 try simp (disch := first | omega | assumption | rfl) only [↓reduceIte, go_sem, Nat.reduceLT, Nat.reduceEqDiff, Nat.reduceSub, p2', Nat.zero_add]
 refine Fn.mono (RCheckData_ok (hE0.trans hE12) h2 hf) ?_
 rintro _ w3 ⟨hE3, e, rfl, he⟩
 try simp (disch := first | omega | assumption | rfl) only [↓reduceIte, go_sem, Nat.reduceLT, Nat.reduceEqDiff, Nat.reduceSub]
 refine hK _ _ ?_; clear hK hgd; clear K; try clear gd
 repeat refine c_r ?_
 refine rt0 Tryz.ntmps122 ?_
 exact ⟨hE12.trans hE3, e, rfl, fun h => ⟨h0, he h⟩⟩

theorem few_f {n : Nm} (h : few n = true) : (∀ l ∈ n, l.length ≤ 1000000000) ∧ n.length ≤ 1000000000 := by
 simp only [few, Bool.and_eq_true, List.all_eq_true, decide_eq_true_eq] at h
 exact ⟨fun l hl => by have := h.2 l hl; omega, by omega⟩

set_option maxHeartbeats 1000000 in
theorem DFew_ok {w0 w : World} (hE0 : Ext w0 w) {cs : List Value} {d : DatL} (hd : DatAt w0 cs d) :
  Fn Tryz.prog 172 #[.agg cs.toArray] w (fun v w' => Ext w w' ∧ ∃ b : Bool, v = .bool b ∧ (b = true → DatF d)) := by
 obtain ⟨nm, nu, tx, rw', rfl, ⟨vals, ⟨an, cn, rfl, hcn, hgn⟩, hvl, hvr⟩, ⟨au, cu, rfl, hcu, hgu⟩, ⟨at1, ct, rfl, hct, hgt⟩, ⟨ar, cr, rfl, hcr, hgr⟩⟩ := hd.ex
 simp only [List.length_map] at hcu hgu hct hgt hcr hgr
 simp only [List.length_map]
 refine enter Tryz.func172 Tryz.ntmps172 rfl rfl ?_
 repeat refine c_r ?_
 refine rg0 ?_
 repeat refine c_r ?_
 refine W_alloc1 ?_
 intro w1 hE1 hs1 hA
 have p1 : cellO w1 (some ⟨w.heap.size, 1, Option.none⟩) = some (.slice an vals.length cn) := cellO_at hA rfl
 have p2 : cellO w1 (some ⟨w.heap.size, 2, Option.none⟩) = some (.slice au d.nums.length cu) := cellO_at hA rfl
 have p3 : cellO w1 (some ⟨w.heap.size, 3, Option.none⟩) = some (.slice at1 d.texts.length ct) := cellO_at hA rfl
 have p4 : cellO w1 (some ⟨w.heap.size, 4, Option.none⟩) = some (.slice ar d.raw.length cr) := cellO_at hA rfl
 refine W_mono (Q := fun e σ' ds' v' => e = .normal ∧ ds' = [] ∧ σ' 1 = .pointer (some ⟨w.heap.size, 0, Option.none⟩) ∧ v' = w1 ∧ ∃ bb, σ' 26 = .bool bb ∧ (bb = false → vals.length ≤ 8 ∧ d.nums.length ≤ 12 ∧ d.texts.length ≤ 40 ∧ d.raw.length ≤ 1100)) ?_ ?_
 ·by_cases hA1 : (vals.length : Int) > 8
  ·refine rq ?_; intro gd K hgd hK
   have hg4 : ∀ n σ b, wantV gd n σ (some (4, b)) = boolIs (ev n σ (.tmp 9)) b := (fun n σ b => by rw [wantV_some, show gd 4 = some 9 from (by rw [hgd]; rfl)]; rfl); have hg10 : ∀ n σ b, wantV gd n σ (some (10, b)) = boolIs (ev n σ (.tmp 15)) b := (fun n σ b => by rw [wantV_some, show gd 10 = some 15 from (by rw [hgd]; rfl)]; rfl); have hg16 : ∀ n σ b, wantV gd n σ (some (16, b)) = boolIs (ev n σ (.tmp 21)) b := (fun n σ b => by rw [wantV_some, show gd 16 = some 21 from (by rw [hgd]; rfl)]; rfl)
   try simp (disch := first | omega | assumption | rfl) only [↓reduceIte, go_sem, Nat.reduceLT, Nat.reduceEqDiff, Nat.reduceSub, p1, Nat.zero_add, decide_eq_true hA1, bi_undef, ↓hg4, ↓hg10, ↓hg16]
   refine hK _ _ ?_; clear hK hgd; clear K; try clear gd
   exact ⟨rfl, rfl, vq0, rfl, _, vr0, fun h => by cases h⟩
  by_cases hA2 : (d.nums.length : Int) > 12
  ·refine rq ?_; intro gd K hgd hK
   have hg4 : ∀ n σ b, wantV gd n σ (some (4, b)) = boolIs (ev n σ (.tmp 9)) b := (fun n σ b => by rw [wantV_some, show gd 4 = some 9 from (by rw [hgd]; rfl)]; rfl); have hg10 : ∀ n σ b, wantV gd n σ (some (10, b)) = boolIs (ev n σ (.tmp 15)) b := (fun n σ b => by rw [wantV_some, show gd 10 = some 15 from (by rw [hgd]; rfl)]; rfl); have hg16 : ∀ n σ b, wantV gd n σ (some (16, b)) = boolIs (ev n σ (.tmp 21)) b := (fun n σ b => by rw [wantV_some, show gd 16 = some 21 from (by rw [hgd]; rfl)]; rfl)
   try simp (disch := first | omega | assumption | rfl) only [↓reduceIte, go_sem, Nat.reduceLT, Nat.reduceEqDiff, Nat.reduceSub, p1, p2, Nat.zero_add, decide_eq_false hA1, decide_eq_true hA2, bi_undef, ↓hg4, ↓hg10, ↓hg16]
   refine hK _ _ ?_; clear hK hgd; clear K; try clear gd
   exact ⟨rfl, rfl, vq0, rfl, _, vr0, fun h => by cases h⟩
  by_cases hA3 : (d.texts.length : Int) > 40
  ·refine rq ?_; intro gd K hgd hK
   have hg4 : ∀ n σ b, wantV gd n σ (some (4, b)) = boolIs (ev n σ (.tmp 9)) b := (fun n σ b => by rw [wantV_some, show gd 4 = some 9 from (by rw [hgd]; rfl)]; rfl); have hg10 : ∀ n σ b, wantV gd n σ (some (10, b)) = boolIs (ev n σ (.tmp 15)) b := (fun n σ b => by rw [wantV_some, show gd 10 = some 15 from (by rw [hgd]; rfl)]; rfl); have hg16 : ∀ n σ b, wantV gd n σ (some (16, b)) = boolIs (ev n σ (.tmp 21)) b := (fun n σ b => by rw [wantV_some, show gd 16 = some 21 from (by rw [hgd]; rfl)]; rfl)
   try simp (disch := first | omega | assumption | rfl) only [↓reduceIte, go_sem, Nat.reduceLT, Nat.reduceEqDiff, Nat.reduceSub, p1, p2, p3, Nat.zero_add, decide_eq_false hA1, decide_eq_false hA2, decide_eq_true hA3, bi_undef, ↓hg4, ↓hg10, ↓hg16]
   refine hK _ _ ?_; clear hK hgd; clear K; try clear gd
   exact ⟨rfl, rfl, vq0, rfl, _, vr0, fun h => by cases h⟩
  by_cases hA4 : (d.raw.length : Int) > 1100
  ·refine rq ?_; intro gd K hgd hK
   have hg4 : ∀ n σ b, wantV gd n σ (some (4, b)) = boolIs (ev n σ (.tmp 9)) b := (fun n σ b => by rw [wantV_some, show gd 4 = some 9 from (by rw [hgd]; rfl)]; rfl); have hg10 : ∀ n σ b, wantV gd n σ (some (10, b)) = boolIs (ev n σ (.tmp 15)) b := (fun n σ b => by rw [wantV_some, show gd 10 = some 15 from (by rw [hgd]; rfl)]; rfl); have hg16 : ∀ n σ b, wantV gd n σ (some (16, b)) = boolIs (ev n σ (.tmp 21)) b := (fun n σ b => by rw [wantV_some, show gd 16 = some 21 from (by rw [hgd]; rfl)]; rfl)
   try simp (disch := first | omega | assumption | rfl) only [↓reduceIte, go_sem, Nat.reduceLT, Nat.reduceEqDiff, Nat.reduceSub, p1, p2, p3, p4, Nat.zero_add, decide_eq_false hA1, decide_eq_false hA2, decide_eq_false hA3, decide_eq_true hA4, bi_undef, ↓hg4, ↓hg10, ↓hg16]
   refine hK _ _ ?_; clear hK hgd; clear K; try clear gd
   exact ⟨rfl, rfl, vq0, rfl, _, vr0, fun h => by cases h⟩
  ·refine rq ?_; intro gd K hgd hK
   have hg4 : ∀ n σ b, wantV gd n σ (some (4, b)) = boolIs (ev n σ (.tmp 9)) b := (fun n σ b => by rw [wantV_some, show gd 4 = some 9 from (by rw [hgd]; rfl)]; rfl); have hg10 : ∀ n σ b, wantV gd n σ (some (10, b)) = boolIs (ev n σ (.tmp 15)) b := (fun n σ b => by rw [wantV_some, show gd 10 = some 15 from (by rw [hgd]; rfl)]; rfl); have hg16 : ∀ n σ b, wantV gd n σ (some (16, b)) = boolIs (ev n σ (.tmp 21)) b := (fun n σ b => by rw [wantV_some, show gd 16 = some 21 from (by rw [hgd]; rfl)]; rfl)
   try simp (disch := first | omega | assumption | rfl) only [↓reduceIte, go_sem, Nat.reduceLT, Nat.reduceEqDiff, Nat.reduceSub, p1, p2, p3, p4, Nat.zero_add, decide_eq_false hA1, decide_eq_false hA2, decide_eq_false hA3, decide_eq_false hA4, bi_undef, ↓hg4, ↓hg10, ↓hg16]
   refine hK _ _ ?_; clear hK hgd; clear K; try clear gd
   exact ⟨rfl, rfl, vq0, rfl, _, vr0, fun _ => ⟨by omega, by omega, by omega, by omega⟩⟩
 rintro _ σ1 _ v1 ⟨rfl, rfl, h1, hv1, bb, h26, hbb⟩
 rw [hv1]
 clear hv1 v1
 repeat refine c_r ?_
 refine W_cond (t := bb) ((vq1 h26)) ?_ ?_
 ·intro _
  repeat (first | refine c_r ?_ | refine rg0 ?_)
  refine rt0 Tryz.ntmps172 ?_
  exact ⟨hE1, false, rfl, fun h => by cases h⟩
 intro hb
 obtain ⟨ln, lu, lt, lr⟩ := hbb hb
 repeat refine c_r ?_
 refine rg0 ?_
 repeat refine c_r ?_
 refine W_mono (Q := fun e σ' ds' v' => ds' = [] ∧ Ext w1 v' ∧ ((e = .exit 0 ∧ σ' 1 = .pointer (some ⟨w.heap.size, 0, Option.none⟩) ∧ ∀ n ∈ d.names, few n = true) ∨ (e = .ret ∧ σ' 2 = .bool false))) ?_ ?_
 ·refine W_loop (fun m σ ds A => ds = [] ∧ ∃ (i : Nat), i + m = vals.length ∧ σ 3 = vi i ∧ σ 1 = .pointer (some ⟨w.heap.size, 0, Option.none⟩) ∧ Ext w1 A ∧ ∀ j (h : j < d.names.length), j < i → few d.names[j] = true) vals.length ?_ ?_
  ·exact ⟨rfl, 0, by omega, vr0, (vq1 h1), Keep.refl _ _, fun j h hj => absurd hj (by omega)⟩
  clear h1
  rintro m σ ds A ⟨rfl, i, him, h3, h1, hEA, hlow⟩
  have q1 := cellO_ext hEA p1
  repeat refine c_r ?_
  refine rg4 h3 h1 q1 Nat.zero_add ?_
  repeat refine c_r ?_
  refine wc0 ?_ ?_
  ·intro hlt
   simp only [decide_eq_true_eq] at hlt
   have hi : i < vals.length := by omega
   have hi0 : (0 : Int) ≤ (i : Int) := by omega
   have hi1 : (i : Int) < (vals.length : Int) := by omega
   have hi1' : (i : Int) + 1 = ((i + 1 : Nat) : Int) := by push_cast; rfl
   have hgi := hgn i hi
   obtain ⟨xN, rfl⟩ := Option.isSome_iff_exists.1 (some_of_cellO hgi)
   have hgi' := cellO_ext (hE0.trans (hE1.trans hEA)) hgi
   have hrow := hvr i hi (by omega)
   obtain ⟨n, hn⟩ : ∃ n, d.names[i]'(by omega) = n := ⟨_, rfl⟩
   rw [hn] at hrow
   obtain ⟨hv, hhv⟩ : ∃ hv, vals[i] = hv := ⟨_, rfl⟩
   rw [hhv] at hgi' hrow
   repeat refine c_r ?_
   refine rq ?_; intro gd K hgd hK
   try simp (disch := first | omega | assumption | rfl) only [↓reduceIte, go_sem, Nat.reduceLT, Nat.reduceEqDiff, Nat.reduceSub, h3, h1, q1, Nat.zero_add, hi0, hi1, hgi']
   refine Fn.mono (Few_ok A hv n (hrow.ext (hE0.trans (hE1.trans hEA)))) ?_
   rintro _ A2 ⟨rfl, hA2⟩
   try simp (disch := first | omega | assumption | rfl) only [↓reduceIte, go_sem, Nat.reduceLT, Nat.reduceEqDiff, Nat.reduceSub]
   refine hK _ _ ?_; clear hK hgd; clear K; try clear gd
   repeat refine c_r ?_
   refine W_cond (t := !few n) (vr0) ?_ ?_
   ·intro _
    repeat refine c_r ?_
    refine rg0 ?_
    repeat refine c_r ?_
    exact ⟨rfl, hEA.trans hA2, .inr ⟨rfl, vq0⟩⟩
   ·intro hfn
    repeat refine c_r ?_
    refine rg2 h3 hi1' ?_
    repeat refine c_r ?_
    refine ⟨m - 1, by omega, rfl, i + 1, by omega, vq0, (vq1 h1), hEA.trans hA2, fun j hj hji => ?_⟩
    by_cases hj2 : j = i
    ·subst hj2; rw [hn]; simpa using hfn
    ·exact hlow j hj (by omega)
  ·intro hge
   simp only [decide_eq_false_iff_not] at hge
   repeat refine c_r ?_
   refine ⟨rfl, hEA, .inl ⟨rfl, (vq1 h1), fun n hn => ?_⟩⟩
   obtain ⟨j, hj, rfl⟩ := List.getElem_of_mem hn
   exact hlow j hj (by omega)
 clear h1
 rintro e σ4 _ A ⟨rfl, hEA, ⟨rfl, h1, hall⟩ | ⟨rfl, h2⟩⟩
 rotate_left
 ·repeat refine c_r ?_
  refine rt1 h2 Tryz.ntmps172 ?_
  exact ⟨hE1.trans hEA, false, rfl, fun h => by cases h⟩
 have q3 := cellO_ext hEA p3
 repeat refine c_r ?_
 refine rg0 ?_
 repeat refine c_r ?_
 refine W_mono (Q := fun e σ' ds' v' => ds' = [] ∧ v' = A ∧ ((e = .exit 2 ∧ σ' 1 = .pointer (some ⟨w.heap.size, 0, Option.none⟩) ∧ ∀ l ∈ d.texts, l.length ≤ 300) ∨ (e = .ret ∧ σ' 2 = .bool false))) ?_ ?_
 ·refine W_loop (fun m σ ds B => ds = [] ∧ ∃ (i : Nat), i + m = d.texts.length ∧ σ 4 = vi i ∧ σ 1 = .pointer (some ⟨w.heap.size, 0, Option.none⟩) ∧ B = A ∧ ∀ j (h : j < d.texts.length), j < i → d.texts[j].length ≤ 300) d.texts.length ?_ ?_
  ·exact ⟨rfl, 0, by omega, vr0, (vq1 h1), rfl, fun j h hj => absurd hj (by omega)⟩
  clear h1
  rintro m σ ds B ⟨rfl, i, him, h4, h1, hB2, hlow⟩
  rw [hB2]
  clear hB2 B
  repeat refine c_r ?_
  refine rg4 h4 h1 q3 Nat.zero_add ?_
  repeat refine c_r ?_
  refine wc0 ?_ ?_
  ·intro hlt
   simp only [decide_eq_true_eq] at hlt
   have hi : i < d.texts.length := by omega
   have hi0 : (0 : Int) ≤ (i : Int) := by omega
   have hi1 : (i : Int) < (d.texts.length : Int) := by omega
   have hi1' : (i : Int) + 1 = ((i + 1 : Nat) : Int) := by push_cast; rfl
   have hgi := hgt i hi
   obtain ⟨xT, rfl⟩ := Option.isSome_iff_exists.1 (some_of_cellO hgi)
   have hgi' := cellO_ext (hE0.trans (hE1.trans hEA)) hgi
   rw [List.getElem_map] at hgi'
   repeat refine c_r ?_
   refine rg7 h4 h1 q3 Nat.zero_add hi0 hi1 hgi' ?_
   repeat refine c_r ?_
   refine wc0 ?_ ?_
   ·intro hgt2
    repeat refine c_r ?_
    refine rg0 ?_
    repeat refine c_r ?_
    exact ⟨rfl, rfl, .inr ⟨rfl, vq0⟩⟩
   ·intro hgt2
    simp only [decide_eq_false_iff_not] at hgt2
    repeat refine c_r ?_
    refine rg2 h4 hi1' ?_
    repeat refine c_r ?_
    refine ⟨m - 1, by omega, rfl, i + 1, by omega, vq0, (vq1 h1), rfl, fun j hj hji => ?_⟩
    by_cases hj2 : j = i
    ·subst hj2; omega
    ·exact hlow j hj (by omega)
  ·intro hge
   simp only [decide_eq_false_iff_not] at hge
   repeat refine c_r ?_
   refine ⟨rfl, rfl, .inl ⟨rfl, (vq1 h1), fun l hl => ?_⟩⟩
   obtain ⟨j, hj, rfl⟩ := List.getElem_of_mem hl
   exact hlow j hj (by omega)
 clear h1
 rintro e σ6 _ v1 ⟨rfl, hv1, ⟨rfl, h1, htl⟩ | ⟨rfl, h2⟩⟩
 rotate_left
 ·rw [hv1]
  repeat refine c_r ?_
  refine rt1 h2 Tryz.ntmps172 ?_
  exact ⟨hE1.trans hEA, false, rfl, fun h => by cases h⟩
 rw [hv1]
 clear hv1 v1
 repeat (first | refine c_r ?_ | refine rg0 ?_)
 refine rt0 Tryz.ntmps172 ?_
 exact ⟨hE1.trans hEA, true, rfl, fun _ => ⟨fun n hn => few_f (hall n hn), by omega, by omega, by omega, fun l hl => by have := htl l hl; omega, by omega⟩⟩
end Go.Proofs.YtopbbjdembnfdaaGreat

namespace Go.Proofs.YtopbbjdembnfdaaGreat
open Go
set_option maxRecDepth 10000

set_option maxHeartbeats 1000000 in
theorem RsFew_ok {w0 w : World} (hE0 : Ext w0 w) {lv : Value} {R : List RecL} (hl : Rows 7 (RecAt w0) w lv R) :
  Fn Tryz.prog 121 #[lv] w (fun v w' => Ext w w' ∧ ∃ b : Bool, v = .bool b ∧ (b = true → R.length ≤ 60 ∧ ∀ r ∈ R, few r.owner = true ∧ DatF r.dat)) := by
 obtain ⟨aR, cR, rfl, hcR, hgR⟩ := hl.open
 refine enter Tryz.func121 Tryz.ntmps121 rfl rfl ?_
 repeat refine c_r ?_
 refine rg0 ?_
 repeat refine c_r ?_
 refine rg0 ?_
 repeat refine c_r ?_
 refine wc0 ?_ ?_
 ·intro _
  repeat (first | refine c_r ?_ | refine rg0 ?_)
  refine rt0 Tryz.ntmps121 ?_
  exact ⟨Keep.refl _ _, false, rfl, fun h => by cases h⟩
 intro h60
 simp only [decide_eq_false_iff_not] at h60
 repeat refine c_r ?_
 refine rg0 ?_
 repeat refine c_r ?_
 refine W_loop (fun m σ ds A => ds = [] ∧ ∃ (i : Nat), i + m = R.length ∧ σ 3 = vi i ∧ σ 0 = .slice aR R.length cR ∧ Ext w A ∧ ∀ j (h : j < R.length), j < i → few R[j].owner = true ∧ DatF R[j].dat) R.length ?_ ?_
 ·exact ⟨rfl, 0, by omega, vr0, vq0, Keep.refl _ _, fun j h hj => absurd hj (by omega)⟩
 rintro m σ ds A ⟨rfl, i, him, h3, h0, hEA, hlow⟩
 repeat refine c_r ?_
 refine rg2 h3 h0 ?_
 repeat refine c_r ?_
 refine wc0 ?_ ?_
 ·intro hlt
  simp only [decide_eq_true_eq] at hlt
  have hi : i < R.length := by omega
  have hi0 : (0 : Int) ≤ (i : Int) := by omega
  have hi1 : (i : Int) < (R.length : Int) := by omega
  have hi1' : (i : Int) + 1 = ((i + 1 : Nat) : Int) := by push_cast; rfl
  obtain ⟨cr, hcr, hRr⟩ := hgR i hi
  obtain ⟨r, hr⟩ : ∃ r, R[i] = r := ⟨_, rfl⟩
  rw [hr] at hRr
  obtain ⟨ow, dsc, hcrE, o1, o2, g0, g1, g2, gd⟩ := hRr.cells
  obtain ⟨xR, rfl⟩ := Option.isSome_iff_exists.1 (cellsO_some hcr)
  obtain ⟨xi, hxi⟩ : ∃ xi, adr (some xR) (i * 7) = some xi := ⟨_, rfl⟩
  rw [hxi] at hcr
  obtain ⟨xd, hxd⟩ : ∃ xd, adr (some xi) 2 = some xd := ⟨_, rfl⟩
  have rc : ∀ {x}, Ext w x → cellO x (some xi) = some ow ∧ cellsO x (some xd) 5 = some dsc := fun {x} hx => by
   have hcx := cellsO_ext hx hcr
   have e0 := cell_of_cells hcx g0
   have e5 := cells_drop (m := 2) (k := 5) hcx
   rw [adr_zero] at e0
   rw [hxd, gd] at e5
   exact ⟨e0, e5⟩
  obtain ⟨c0, _⟩ := rc hEA
  have hwA := hE0.trans hEA
  repeat refine c_r ?_
  refine W_mono (Q := fun e σ' ds' v' => e = .normal ∧ ds' = [] ∧ σ' 3 = vi i ∧ σ' 0 = .slice (some xR) R.length cR ∧ Ext A v' ∧ ∃ bb, σ' 28 = .bool bb ∧ (bb = false → few r.owner = true ∧ DatF r.dat)) ?_ ?_
  ·cases hf : few r.owner with
   | false =>
    refine rq ?_; intro gd K hgd hK
    have hg7 : ∀ n σ b, wantV gd n σ (some (7, b)) = boolIs (ev n σ (.tmp 20)) b := (fun n σ b => by rw [wantV_some, show gd 7 = some 20 from (by rw [hgd]; rfl)]; rfl)
    try simp (disch := first | omega | assumption | rfl) only [↓reduceIte, go_sem, Nat.reduceLT, Nat.reduceEqDiff, Nat.reduceSub, h0, h3, hi0, hi1, hxi, c0, adr_zero]
    refine Fn.mono (Few_ok A ow r.owner (o1.ext hwA)) ?_
    rintro _ A2 ⟨rfl, hA2⟩
    rw [hf]
    try simp (disch := first | omega | assumption | rfl) only [↓reduceIte, go_sem, Nat.reduceLT, Nat.reduceEqDiff, Nat.reduceSub, Bool.not_false, ↓hg7]
    refine hK _ _ ?_; clear hK hgd; clear K; try clear gd
    exact ⟨rfl, rfl, (vq1 h3), (vq1 h0), hA2, _, vr0, fun h => by cases h⟩
   | true =>
    refine rq ?_; intro gd K hgd hK
    have hg7 : ∀ n σ b, wantV gd n σ (some (7, b)) = boolIs (ev n σ (.tmp 20)) b := (fun n σ b => by rw [wantV_some, show gd 7 = some 20 from (by rw [hgd]; rfl)]; rfl)
    try simp (disch := first | omega | assumption | rfl) only [↓reduceIte, go_sem, Nat.reduceLT, Nat.reduceEqDiff, Nat.reduceSub, h0, h3, hi0, hi1, hxi, c0, adr_zero]
    refine Fn.mono (Few_ok A ow r.owner (o1.ext hwA)) ?_
    rintro _ A2 ⟨rfl, hA2⟩
    rw [hf]
    obtain ⟨_, c5⟩ := rc (hEA.trans hA2)
    try simp (disch := first | omega | assumption | rfl) only [↓reduceIte, go_sem, Nat.reduceLT, Nat.reduceEqDiff, Nat.reduceSub, h0, h3, hi0, hi1, hxi, hxd, c5, Bool.not_true, ↓hg7]
    refine Fn.mono (DFew_ok (hwA.trans hA2) o2) ?_
    rintro _ A3 ⟨hA3, b, rfl, hb⟩
    try simp (disch := first | omega | assumption | rfl) only [↓reduceIte, go_sem, Nat.reduceLT, Nat.reduceEqDiff, Nat.reduceSub, ↓hg7]
    refine hK _ _ ?_; clear hK hgd; clear K; try clear gd
    exact ⟨rfl, rfl, (vq1 h3), (vq1 h0), hA2.trans hA3, _, vr0, fun h => ⟨rfl, hb (by simpa using h)⟩⟩
  clear h3 h0
  rintro _ σ1 _ A1 ⟨rfl, rfl, h3, h0, hA1, bb, h28, hbb⟩
  repeat refine c_r ?_
  refine W_cond (t := bb) ((vq1 h28)) ?_ ?_
  ·intro _
   repeat (first | refine c_r ?_ | refine rg0 ?_)
   refine rt0 Tryz.ntmps121 ?_
   exact ⟨hEA.trans hA1, false, rfl, fun h => by cases h⟩
  ·intro ht
   repeat refine c_r ?_
   refine rg2 h3 hi1' ?_
   repeat refine c_r ?_
   refine ⟨m - 1, by omega, rfl, i + 1, by omega, vq0, (vq1 h0), hEA.trans hA1, fun j hj hji => ?_⟩
   by_cases hj2 : j = i
   ·subst hj2; rw [hr]; exact hbb ht
   ·exact hlow j hj (by omega)
 ·intro hge
  simp only [decide_eq_false_iff_not] at hge
  repeat (first | refine c_r ?_ | refine rg0 ?_)
  refine rt0 Tryz.ntmps121 ?_
  refine ⟨hEA, true, rfl, fun _ => ⟨by omega, fun r hr => ?_⟩⟩
  obtain ⟨j, hj, rfl⟩ := List.getElem_of_mem hr
  exact hlow j hj (by omega)

structure GoodRs (R : List RecL) : Prop where
 len : R.length ≤ 60
 few : ∀ r ∈ R, few r.owner = true ∧ DatF r.dat
 own : ∀ r ∈ R, checkN r.owner = 0
 names : ∀ r ∈ R, ∀ n ∈ r.dat.names, checkN n = 0
 lead : ∀ r ∈ R, leadT r.dat.ty → r.dat.names.length = 1

set_option maxHeartbeats 1000000 in
theorem RsGood_ok {w0 w : World} (hE0 : Ext w0 w) {lv : Value} {R : List RecL} (hl : Rows 7 (RecAt w0) w lv R) :
  Fn Tryz.prog 55 #[lv] w (fun v w' => Ext w w' ∧ ∃ b : Bool, v = .bool b ∧ (b = true → GoodRs R)) := by
 obtain ⟨aR, cR, rfl, hcR, hgR⟩ := hl.open
 refine enter Tryz.func55 Tryz.ntmps55 rfl rfl ?_
 repeat refine c_r ?_
 refine rg0 ?_
 repeat refine c_r ?_
 refine rq ?_; intro gd K hgd hK
 try simp (disch := first | omega | assumption | rfl) only [↓reduceIte, go_sem, Nat.reduceLT, Nat.reduceEqDiff, Nat.reduceSub]
 refine Fn.mono (RsFew_ok hE0 hl) ?_
 rintro _ w1 ⟨hE1, b, rfl, hb⟩
 try simp (disch := first | omega | assumption | rfl) only [↓reduceIte, go_sem, Nat.reduceLT, Nat.reduceEqDiff, Nat.reduceSub]
 refine hK _ _ ?_; clear hK hgd; clear K; try clear gd
 repeat refine c_r ?_
 refine W_cond (t := !b) (vr0) ?_ ?_
 ·intro _
  repeat (first | refine c_r ?_ | refine rg0 ?_)
  refine rt0 Tryz.ntmps55 ?_
  exact ⟨hE1, false, rfl, fun h => by cases h⟩
 intro hb2
 obtain ⟨hRl, hRf⟩ := hb (by simpa using hb2)
 repeat refine c_r ?_
 refine rg0 ?_
 repeat refine c_r ?_
 refine W_loop (fun m σ ds A => ds = [] ∧ ∃ (i : Nat), i + m = R.length ∧ σ 3 = vi i ∧ σ 0 = .slice aR R.length cR ∧ Ext w A ∧ ∀ j (h : j < R.length), j < i → checkN R[j].owner = 0 ∧ (∀ n ∈ R[j].dat.names, checkN n = 0) ∧ (leadT R[j].dat.ty → R[j].dat.names.length = 1)) R.length ?_ ?_
 ·exact ⟨rfl, 0, by omega, vr0, vq0, hE1, fun j h hj => absurd hj (by omega)⟩
 rintro m σ ds A ⟨rfl, i, him, h3, h0, hEA, hlow⟩
 repeat refine c_r ?_
 refine rg2 h3 h0 ?_
 repeat refine c_r ?_
 refine wc0 ?_ ?_
 ·intro hlt
  simp only [decide_eq_true_eq] at hlt
  have hi : i < R.length := by omega
  have hi0 : (0 : Int) ≤ (i : Int) := by omega
  have hi1 : (i : Int) < (R.length : Int) := by omega
  have hi1' : (i : Int) + 1 = ((i + 1 : Nat) : Int) := by push_cast; rfl
  obtain ⟨cr, hcr, hRr⟩ := hgR i hi
  obtain ⟨r, hr⟩ : ∃ r, R[i] = r := ⟨_, rfl⟩
  rw [hr] at hRr
  obtain ⟨f1, f2⟩ := hRf r (hr ▸ List.getElem_mem hi)
  obtain ⟨xR, rfl⟩ := Option.isSome_iff_exists.1 (cellsO_some hcr)
  obtain ⟨xi, hxi⟩ : ∃ xi, adr (some xR) (i * 7) = some xi := ⟨_, rfl⟩
  rw [hxi] at hcr
  have hcA := cellsO_ext hEA hcr
  have hwA := hE0.trans hEA
  repeat refine c_r ?_
  refine rq ?_; intro gd K hgd hK
  try simp (disch := first | omega | assumption | rfl) only [↓reduceIte, go_sem, Nat.reduceLT, Nat.reduceEqDiff, Nat.reduceSub, h0, h3, hi0, hi1, hxi, hcA]
  refine Fn.mono (RcOf_ok hwA hRr f2.nn) ?_
  rintro _ A2 ⟨hA2, cs', nm', rfl, hx⟩
  try simp (disch := first | omega | assumption | rfl) only [↓reduceIte, go_sem, Nat.reduceLT, Nat.reduceEqDiff, Nat.reduceSub]
  refine Fn.mono (RCheckRec_ok (Keep.refl _ A2) (hx.at (hwA.trans hA2)) f2 (few_f f1)) ?_
  rintro _ A3 ⟨hA3, e, rfl, he⟩
  try simp (disch := first | omega | assumption | rfl) only [↓reduceIte, go_sem, Nat.reduceLT, Nat.reduceEqDiff, Nat.reduceSub]
  refine hK _ _ ?_; clear hK hgd; clear K; try clear gd
  repeat refine c_r ?_
  by_cases h0e : e = 0
  ·refine W_cond (t := !decide (e = 0)) (vr0) (fun h => by rw [decide_eq_true h0e] at h; cases h) ?_
   intro _
   repeat refine c_r ?_
   refine rg2 h3 hi1' ?_
   repeat refine c_r ?_
   refine ⟨m - 1, by omega, rfl, i + 1, by omega, vq0, (vq1 h0), hEA.trans (hA2.trans hA3), fun j hj hji => ?_⟩
   by_cases hj2 : j = i
   ·subst hj2; rw [hr]; exact he h0e
   ·exact hlow j hj (by omega)
  ·refine W_cond (t := !decide (e = 0)) (vr0) ?_ (fun h => by rw [decide_eq_false h0e] at h; cases h)
   intro _
   repeat (first | refine c_r ?_ | refine rg0 ?_)
   refine rt0 Tryz.ntmps55 ?_
   exact ⟨hEA.trans (hA2.trans hA3), false, rfl, fun h => by cases h⟩
 ·intro hge
  simp only [decide_eq_false_iff_not] at hge
  repeat (first | refine c_r ?_ | refine rg0 ?_)
  refine rt0 Tryz.ntmps55 ?_
  have hall : ∀ r ∈ R, checkN r.owner = 0 ∧ (∀ n ∈ r.dat.names, checkN n = 0) ∧ (leadT r.dat.ty → r.dat.names.length = 1) := fun r hr => by
   obtain ⟨j, hj, rfl⟩ := List.getElem_of_mem hr
   exact hlow j hj (by omega)
  exact ⟨hEA, true, rfl, fun _ => ⟨hRl, hRf, fun r hr => (hall r hr).1, fun r hr => (hall r hr).2.1, fun r hr => (hall r hr).2.2⟩⟩

theorem ZGood_ok {w0 w : World} (hE0 : Ext w0 w) {ov lv : Value} {o : Nm} {R : List RecL} (ho : Row w ov (o.map vs)) (hl : Rows 7 (RecAt w0) w lv R) :
  Fn Tryz.prog 16 #[ov, lv] w (fun v w' => Ext w w' ∧ ∃ b : Bool, v = .bool b ∧ (b = true → goodN o = true ∧ GoodRs R)) := by
 refine enter Tryz.func16 Tryz.ntmps16 rfl rfl ?_
 repeat refine c_r ?_
 refine rg0 ?_
 repeat refine c_r ?_
 cases hg : goodN o with
 | false =>
  refine rq ?_; intro gd K hgd hK
  have hg2 : ∀ n σ b, wantV gd n σ (some (2, b)) = boolIs (ev n σ (.tmp 7)) b := (fun n σ b => by rw [wantV_some, show gd 2 = some 7 from (by rw [hgd]; rfl)]; rfl)
  try simp (disch := first | omega | assumption | rfl) only [↓reduceIte, go_sem, Nat.reduceLT, Nat.reduceEqDiff, Nat.reduceSub]
  refine Fn.mono (NGood_ok w ov o ho) ?_
  rintro _ w1 ⟨rfl, hE1⟩
  rw [hg]
  try simp (disch := first | omega | assumption | rfl) only [↓reduceIte, go_sem, Nat.reduceLT, Nat.reduceEqDiff, Nat.reduceSub, ↓hg2]
  refine hK _ _ ?_; clear hK hgd; clear K; try clear gd
  repeat refine c_r ?_
  refine rt0 Tryz.ntmps16 ?_
  exact ⟨hE1, false, rfl, fun h => by cases h⟩
 | true =>
  refine rq ?_; intro gd K hgd hK
  have hg2 : ∀ n σ b, wantV gd n σ (some (2, b)) = boolIs (ev n σ (.tmp 7)) b := (fun n σ b => by rw [wantV_some, show gd 2 = some 7 from (by rw [hgd]; rfl)]; rfl)
  try simp (disch := first | omega | assumption | rfl) only [↓reduceIte, go_sem, Nat.reduceLT, Nat.reduceEqDiff, Nat.reduceSub]
  refine Fn.mono (NGood_ok w ov o ho) ?_
  rintro _ w1 ⟨rfl, hE1⟩
  rw [hg]
  try simp (disch := first | omega | assumption | rfl) only [↓reduceIte, go_sem, Nat.reduceLT, Nat.reduceEqDiff, Nat.reduceSub, ↓hg2]
  refine Fn.mono (RsGood_ok (hE0.trans hE1) (hl.ext hE1)) ?_
  rintro _ w2 ⟨hE2, b, rfl, hb⟩
  try simp (disch := first | omega | assumption | rfl) only [↓reduceIte, go_sem, Nat.reduceLT, Nat.reduceEqDiff, Nat.reduceSub, ↓hg2]
  refine hK _ _ ?_; clear hK hgd; clear K; try clear gd
  repeat refine c_r ?_
  refine rt0 Tryz.ntmps16 ?_
  exact ⟨hE1.trans hE2, b, rfl, fun h => ⟨rfl, hb h⟩⟩
end Go.Proofs.YtopbbjdembnfdaaGreat

namespace Go.Proofs.YtopbbjdembnfdaaGreat
open Go

def eqAll {α : Type} (p : α → α → Bool) : List α → List α → Bool
 | [], [] => true
 | x :: l, y :: m => p x y && eqAll p l m
 | _, _ => false
theorem eqAll_len {α : Type} {p : α → α → Bool} : ∀ {l m : List α}, l.length ≠ m.length → eqAll p l m = false
 | [], [], h => absurd rfl h
 | [], _ :: _, _ => rfl
 | _ :: _, [], _ => rfl
 | x :: l, y :: m, h => by
  simp only [eqAll]
  rw [eqAll_len (fun e => h (by rw [List.length_cons, List.length_cons, e])), Bool.and_false]
theorem eqAll_drop {α : Type} {p : α → α → Bool} {l m : List α} {i : Nat} (hl : i < l.length) (hm : i < m.length) : eqAll p (l.drop i) (m.drop i) = (p l[i] m[i] && eqAll p (l.drop (i + 1)) (m.drop (i + 1))) := by
 rw [List.drop_eq_getElem_cons hl, List.drop_eq_getElem_cons hm]; rfl
theorem eqAll_self {α : Type} {p : α → α → Bool} (h : ∀ x, p x x = true) : ∀ l : List α, eqAll p l l = true
 | [] => rfl
 | x :: l => by simp only [eqAll]; rw [h x, eqAll_self h l]; rfl
end Go.Proofs.YtopbbjdembnfdaaGreat

namespace Go.Proofs.YtopbbjdembnfdaaGreat.P_ed
open Go Go.Proofs.YtopbbjdembnfdaaGreat
set_option maxRecDepth 10000

theorem EqualFunc_ok {α : Type} {w : World} {C D : List Value → α → Prop} {uv vv : Value} {xs ys : List α} {g : FuncId} {p : α → α → Bool} (hC : Shape 5 C) (hD : Shape 5 D) (hx : Rows 5 C w uv xs) (hy : Rows 5 D w vv ys) (hcal : callable Tryz.prog g = true)
  (hcall : ∀ (A : World) (cs ds : List Value) (x y : α), Ext w A → x ∈ xs → y ∈ ys → C cs x → D ds y → Fn Tryz.prog g #[.agg cs.toArray, .agg ds.toArray] A (fun v A' => v = .bool (p x y) ∧ Ext A A')) (hxl : xs.length ≤ 1000000000) (hyl : ys.length ≤ 1000000000) :
  Fn Tryz.prog 79 #[uv, vv, .func (.func g) #[] #[]] w (fun v w' => v = .bool (eqAll p xs ys) ∧ Ext w w') := by
 obtain ⟨ax, cx, rfl, hcx, hgx⟩ := hx.open
 obtain ⟨ay, cy, rfl, hcy, hgy⟩ := hy.open
 refine enter Tryz.func79 Tryz.ntmps79 rfl rfl ?_
 repeat refine c_r ?_
 refine rg0 ?_
 repeat refine c_r ?_
 refine rg0 ?_
 repeat refine c_r ?_
 refine wc0 ?_ ?_
 ·intro hne
  simp only [Bool.not_eq_true', decide_eq_false_iff_not] at hne
  repeat (first | refine c_r ?_ | refine rg0 ?_)
  refine rt0 Tryz.ntmps79 ?_
  exact ⟨by rw [eqAll_len (by omega)], Keep.refl _ _⟩
 intro heq
 simp only [Bool.not_eq_false', decide_eq_true_eq] at heq
 have hlen : xs.length = ys.length := by omega
 repeat refine c_r ?_
 refine rg0 ?_
 repeat refine c_r ?_
 refine W_loop (fun m σ ds A => ds = [] ∧ ∃ (i : Nat), i + m = xs.length ∧ σ 17 = vi i ∧ σ 16 = vi xs.length ∧ σ 15 = .slice ax xs.length cx ∧ σ 1 = .slice ay ys.length cy ∧ σ 2 = .func (.func g) #[] #[] ∧ Ext w A ∧ eqAll p xs ys = eqAll p (xs.drop i) (ys.drop i)) xs.length ?_ ?_
 ·exact ⟨rfl, 0, by omega, vr0, vr0, vq0, vq0, vq0, Keep.refl _ _, rfl⟩
 rintro m σ ds A ⟨rfl, i, him, h17, h16, h15, h1, h2, hEA, hinv⟩
 repeat refine c_r ?_
 refine rg2 h17 h16 ?_
 repeat refine c_r ?_
 refine wc0 ?_ ?_
 ·intro hlt
  simp only [decide_eq_true_eq] at hlt
  have hix : i < xs.length := by omega
  have hiy : i < ys.length := by omega
  have hi0 : (0 : Int) ≤ (i : Int) := by omega
  have hi1 : (i : Int) < (xs.length : Int) := by omega
  have hi2 : (i : Int) < (ys.length : Int) := by omega
  have hi1' : (i : Int) + 1 = ((i + 1 : Nat) : Int) := by push_cast; rfl
  obtain ⟨cs, hcs, hCx⟩ := hgx i hix
  obtain ⟨es, hes, hDy⟩ := hgy i hiy
  obtain ⟨zx, rfl⟩ := Option.isSome_iff_exists.1 (cellsO_some hcs)
  obtain ⟨zy, rfl⟩ := Option.isSome_iff_exists.1 (cellsO_some hes)
  have d1 := cellsO_ext hEA hcs
  repeat refine c_r ?_
  refine rq ?_; intro gd K hgd hK
  try simp (disch := first | omega | assumption | rfl) only [↓reduceIte, go_sem, Nat.reduceLT, Nat.reduceEqDiff, Nat.reduceSub, h15, h17, hi0, hi1, d1]
  refine sv_all (P := Tryz.prog) (t := 59) (l := cs) (new_block A _) (hC.len hCx) (hC.ones hCx) (by rw [hC.len hCx]; rfl) rfl ?_
  intro A3 hs5 hB5 hk5
  try simp (disch := first | omega | assumption | rfl) only [↓reduceIte, go_sem, Nat.reduceLT, Nat.reduceEqDiff, Nat.reduceSub]
  refine hK _ _ ?_; clear hK hgd; clear K; try clear gd
  rw [new_size] at hs5
  have hE5 : Ext A A3 := Keep.to_ext (Ext.alloc A _) rfl (fun b hb => by omega) hk5
  clear hk5
  have d2 := cellsO_ext (hEA.trans hE5) hes
  repeat refine c_r ?_
  refine rq ?_; intro gd K hgd hK
  try simp (disch := first | omega | assumption | rfl) only [↓reduceIte, go_sem, Nat.reduceLT, Nat.reduceEqDiff, Nat.reduceSub, h1, hi0, hi2, d2]
  refine sv_all (P := Tryz.prog) (t := 59) (l := es) (new_block A3 _) (hD.len hDy) (hD.ones hDy) (by rw [hD.len hDy]; rfl) rfl ?_
  intro A4 hs6 hB6 hk6
  try simp (disch := first | omega | assumption | rfl) only [↓reduceIte, go_sem, Nat.reduceLT, Nat.reduceEqDiff, Nat.reduceSub]
  refine hK _ _ ?_; clear hK hgd; clear K; try clear gd
  rw [new_size] at hs6
  have hE6 : Ext A3 A4 := Keep.to_ext (Ext.alloc A3 _) rfl (fun b hb => by omega) hk6
  clear hk6
  have q1 := sv_cells (n := 5) (hE6.at hB5) (hC.len hCx).symm
  have q2 := sv_cells (n := 5) hB6 (hD.len hDy).symm
  have hst := eqAll_drop (p := p) hix hiy
  repeat refine c_r ?_
  refine rq ?_; intro gd K hgd hK
  try simp (disch := first | omega | assumption | rfl) only [↓reduceIte, go_sem, Nat.reduceLT, Nat.reduceEqDiff, Nat.reduceSub, h2, q1, q2]
  refine call_of hcal (Fn.mono (hcall A4 cs es xs[i] ys[i] ((hEA.trans hE5).trans hE6) (List.getElem_mem hix) (List.getElem_mem hiy) hCx hDy) ?_)
  rintro _ A5 ⟨rfl, hE7⟩
  try simp (disch := first | omega | assumption | rfl) only [↓reduceIte, go_sem, Nat.reduceLT, Nat.reduceEqDiff, Nat.reduceSub]
  refine hK _ _ ?_; clear hK hgd; clear K; try clear gd
  repeat refine c_r ?_
  refine wc0 ?_ ?_
  ·intro hf
   simp only [Bool.not_eq_true'] at hf
   repeat (first | refine c_r ?_ | refine rg0 ?_)
   refine rt0 Tryz.ntmps79 ?_
   exact ⟨by rw [hinv, hst, hf, Bool.false_and], ((hEA.trans hE5).trans hE6).trans hE7⟩
  ·intro ht
   simp only [Bool.not_eq_false'] at ht
   repeat refine c_r ?_
   refine rg2 h17 hi1' ?_
   repeat refine c_r ?_
   exact ⟨m - 1, by omega, rfl, i + 1, by omega, vq0, (vq1 h16), (vq1 h15), (vq1 h1), (vq1 h2), ((hEA.trans hE5).trans hE6).trans hE7, by rw [hinv, hst, ht, Bool.true_and]⟩
 ·intro hge
  simp only [decide_eq_false_iff_not] at hge
  have e1 : xs.drop i = [] := List.drop_eq_nil_of_le (by omega)
  have e2 : ys.drop i = [] := List.drop_eq_nil_of_le (by omega)
  repeat (first | refine c_r ?_ | refine rg0 ?_)
  refine rt0 Tryz.ntmps79 ?_
  exact ⟨by rw [hinv, e1, e2]; rfl, hEA⟩
end Go.Proofs.YtopbbjdembnfdaaGreat.P_ed

namespace Go.Proofs.YtopbbjdembnfdaaGreat.P_eg
open Go Go.Proofs.YtopbbjdembnfdaaGreat
set_option maxRecDepth 10000

theorem EqualFunc_ok {α : Type} {w : World} {C D : List Value → α → Prop} {uv vv : Value} {xs ys : List α} {g : FuncId} {p : α → α → Bool} (hC : Shape 2 C) (hD : Shape 2 D) (hx : Rows 2 C w uv xs) (hy : Rows 2 D w vv ys) (hcal : callable Tryz.prog g = true)
  (hcall : ∀ (A : World) (cs ds : List Value) (x y : α), Ext w A → x ∈ xs → y ∈ ys → C cs x → D ds y → Fn Tryz.prog g #[.agg cs.toArray, .agg ds.toArray] A (fun v A' => v = .bool (p x y) ∧ Ext A A')) (hxl : xs.length ≤ 1000000000) (hyl : ys.length ≤ 1000000000) :
  Fn Tryz.prog 81 #[uv, vv, .func (.func g) #[] #[]] w (fun v w' => v = .bool (eqAll p xs ys) ∧ Ext w w') := by
 obtain ⟨ax, cx, rfl, hcx, hgx⟩ := hx.open
 obtain ⟨ay, cy, rfl, hcy, hgy⟩ := hy.open
 refine enter Tryz.func81 Tryz.ntmps81 rfl rfl ?_
 repeat refine c_r ?_
 refine rg0 ?_
 repeat refine c_r ?_
 refine rg0 ?_
 repeat refine c_r ?_
 refine wc0 ?_ ?_
 ·intro hne
  simp only [Bool.not_eq_true', decide_eq_false_iff_not] at hne
  repeat (first | refine c_r ?_ | refine rg0 ?_)
  refine rt0 Tryz.ntmps81 ?_
  exact ⟨by rw [eqAll_len (by omega)], Keep.refl _ _⟩
 intro heq
 simp only [Bool.not_eq_false', decide_eq_true_eq] at heq
 have hlen : xs.length = ys.length := by omega
 repeat refine c_r ?_
 refine rg0 ?_
 repeat refine c_r ?_
 refine W_loop (fun m σ ds A => ds = [] ∧ ∃ (i : Nat), i + m = xs.length ∧ σ 17 = vi i ∧ σ 16 = vi xs.length ∧ σ 15 = .slice ax xs.length cx ∧ σ 1 = .slice ay ys.length cy ∧ σ 2 = .func (.func g) #[] #[] ∧ Ext w A ∧ eqAll p xs ys = eqAll p (xs.drop i) (ys.drop i)) xs.length ?_ ?_
 ·exact ⟨rfl, 0, by omega, vr0, vr0, vq0, vq0, vq0, Keep.refl _ _, rfl⟩
 rintro m σ ds A ⟨rfl, i, him, h17, h16, h15, h1, h2, hEA, hinv⟩
 repeat refine c_r ?_
 refine rg2 h17 h16 ?_
 repeat refine c_r ?_
 refine wc0 ?_ ?_
 ·intro hlt
  simp only [decide_eq_true_eq] at hlt
  have hix : i < xs.length := by omega
  have hiy : i < ys.length := by omega
  have hi0 : (0 : Int) ≤ (i : Int) := by omega
  have hi1 : (i : Int) < (xs.length : Int) := by omega
  have hi2 : (i : Int) < (ys.length : Int) := by omega
  have hi1' : (i : Int) + 1 = ((i + 1 : Nat) : Int) := by push_cast; rfl
  obtain ⟨cs, hcs, hCx⟩ := hgx i hix
  obtain ⟨es, hes, hDy⟩ := hgy i hiy
  obtain ⟨zx, rfl⟩ := Option.isSome_iff_exists.1 (cellsO_some hcs)
  obtain ⟨zy, rfl⟩ := Option.isSome_iff_exists.1 (cellsO_some hes)
  have d1 := cellsO_ext hEA hcs
  repeat refine c_r ?_
  refine rq ?_; intro gd K hgd hK
  try simp (disch := first | omega | assumption | rfl) only [↓reduceIte, go_sem, Nat.reduceLT, Nat.reduceEqDiff, Nat.reduceSub, h15, h17, hi0, hi1, d1]
  refine sv_all (P := Tryz.prog) (t := 112) (l := cs) (new_block A _) (hC.len hCx) (hC.ones hCx) (by rw [hC.len hCx]; rfl) rfl ?_
  intro A3 hs5 hB5 hk5
  try simp (disch := first | omega | assumption | rfl) only [↓reduceIte, go_sem, Nat.reduceLT, Nat.reduceEqDiff, Nat.reduceSub]
  refine hK _ _ ?_; clear hK hgd; clear K; try clear gd
  rw [new_size] at hs5
  have hE5 : Ext A A3 := Keep.to_ext (Ext.alloc A _) rfl (fun b hb => by omega) hk5
  clear hk5
  have d2 := cellsO_ext (hEA.trans hE5) hes
  repeat refine c_r ?_
  refine rq ?_; intro gd K hgd hK
  try simp (disch := first | omega | assumption | rfl) only [↓reduceIte, go_sem, Nat.reduceLT, Nat.reduceEqDiff, Nat.reduceSub, h1, hi0, hi2, d2]
  refine sv_all (P := Tryz.prog) (t := 112) (l := es) (new_block A3 _) (hD.len hDy) (hD.ones hDy) (by rw [hD.len hDy]; rfl) rfl ?_
  intro A4 hs6 hB6 hk6
  try simp (disch := first | omega | assumption | rfl) only [↓reduceIte, go_sem, Nat.reduceLT, Nat.reduceEqDiff, Nat.reduceSub]
  refine hK _ _ ?_; clear hK hgd; clear K; try clear gd
  rw [new_size] at hs6
  have hE6 : Ext A3 A4 := Keep.to_ext (Ext.alloc A3 _) rfl (fun b hb => by omega) hk6
  clear hk6
  have q1 := sv_cells (n := 2) (hE6.at hB5) (hC.len hCx).symm
  have q2 := sv_cells (n := 2) hB6 (hD.len hDy).symm
  have hst := eqAll_drop (p := p) hix hiy
  repeat refine c_r ?_
  refine rq ?_; intro gd K hgd hK
  try simp (disch := first | omega | assumption | rfl) only [↓reduceIte, go_sem, Nat.reduceLT, Nat.reduceEqDiff, Nat.reduceSub, h2, q1, q2]
  refine call_of hcal (Fn.mono (hcall A4 cs es xs[i] ys[i] ((hEA.trans hE5).trans hE6) (List.getElem_mem hix) (List.getElem_mem hiy) hCx hDy) ?_)
  rintro _ A5 ⟨rfl, hE7⟩
  try simp (disch := first | omega | assumption | rfl) only [↓reduceIte, go_sem, Nat.reduceLT, Nat.reduceEqDiff, Nat.reduceSub]
  refine hK _ _ ?_; clear hK hgd; clear K; try clear gd
  repeat refine c_r ?_
  refine wc0 ?_ ?_
  ·intro hf
   simp only [Bool.not_eq_true'] at hf
   repeat (first | refine c_r ?_ | refine rg0 ?_)
   refine rt0 Tryz.ntmps81 ?_
   exact ⟨by rw [hinv, hst, hf, Bool.false_and], ((hEA.trans hE5).trans hE6).trans hE7⟩
  ·intro ht
   simp only [Bool.not_eq_false'] at ht
   repeat refine c_r ?_
   refine rg2 h17 hi1' ?_
   repeat refine c_r ?_
   exact ⟨m - 1, by omega, rfl, i + 1, by omega, vq0, (vq1 h16), (vq1 h15), (vq1 h1), (vq1 h2), ((hEA.trans hE5).trans hE6).trans hE7, by rw [hinv, hst, ht, Bool.true_and]⟩
 ·intro hge
  simp only [decide_eq_false_iff_not] at hge
  have e1 : xs.drop i = [] := List.drop_eq_nil_of_le (by omega)
  have e2 : ys.drop i = [] := List.drop_eq_nil_of_le (by omega)
  repeat (first | refine c_r ?_ | refine rg0 ?_)
  refine rt0 Tryz.ntmps81 ?_
  exact ⟨by rw [hinv, e1, e2]; rfl, hEA⟩
end Go.Proofs.YtopbbjdembnfdaaGreat.P_eg

namespace Go.Proofs.YtopbbjdembnfdaaGreat
open Go
set_option maxRecDepth 10000

def sameD (a b : DatL) : Bool := decide (cmpD a b = 0)
def sameG (x y : Nm × List DatL) : Bool := decide (foldN x.1 = foldN y.1) && eqAll sameD x.2 y.2
def sameRes (a b : ResL) : Bool := decide (a.kind = b.kind) && (a.wild == b.wild && (decide (foldN a.name = foldN b.name) && (eqAll sameD a.data b.data && eqAll sameG a.glue b.glue)))
structure ResOk (r : ResL) : Prop where
 nm : NmS r.name
 dat : ∀ d ∈ r.data, DatOk d
 dl : r.data.length ≤ 1000000000
 gl : r.glue.length ≤ 1000000000
 g : ∀ x ∈ r.glue, NmS x.1 ∧ (∀ d ∈ x.2, DatOk d) ∧ x.2.length ≤ 1000000000

theorem GlC.cells {w0 w : World} {cs : List Value} {x : Nm × List DatL} (h : GlC w0 w cs x) : cs.length = 2 ∧ ∀ q ∈ cs, one q = true := by
 obtain ⟨hv, dv, rfl, ⟨a, c, rfl, _⟩, h2⟩ := h
 obtain ⟨a2, c2, rfl, _⟩ := h2.open
 refine ⟨rfl, fun q hq => ?_⟩
 simp at hq
 rcases hq with rfl | rfl <;> rfl
theorem glc_shape (w0 w : World) : Shape 2 (GlC w0 w) := ⟨fun h => h.cells.1, fun h => h.cells.2⟩

theorem SameDs_ok {w0 w : World} (hE0 : Ext w0 w) {uv vv : Value} {xs ys : List DatL} (hx : Rows 5 (DatAt w0) w uv xs) (hy : Rows 5 (DatAt w0) w vv ys) (hxo : ∀ d ∈ xs, DatOk d) (hyo : ∀ d ∈ ys, DatOk d) (hxl : xs.length ≤ 1000000000) (hyl : ys.length ≤ 1000000000) :
  Fn Tryz.prog 79 #[uv, vv, .func (.func 80) #[] #[]] w (fun v w' => v = .bool (eqAll sameD xs ys) ∧ Ext w w') :=
 P_ed.EqualFunc_ok (dat_shape w0) (dat_shape w0) hx hy rfl (fun A cs ds x y hE hxm hym hc hd => DSame_ok A cs ds x y (hc.ext (hE0.trans hE)) (hd.ext (hE0.trans hE)) (hxo x hxm) (hyo y hym)) hxl hyl

theorem SameG_ok {w0 A0 : World} (hE0 : Ext w0 A0) (A : World) (hEA : Ext A0 A) {cs ds : List Value} {x y : Nm × List DatL} (hc : GlC w0 A0 cs x) (hd : GlC w0 A0 ds y) (hx : NmS x.1 ∧ (∀ d ∈ x.2, DatOk d) ∧ x.2.length ≤ 1000000000) (hy : NmS y.1 ∧ (∀ d ∈ y.2, DatOk d) ∧ y.2.length ≤ 1000000000) :
  Fn Tryz.prog 82 #[.agg cs.toArray, .agg ds.toArray] A (fun v A' => v = .bool (sameG x y) ∧ Ext A A') := by
 obtain ⟨hv, dv, rfl, h1, h2⟩ := hc
 obtain ⟨hv2, dv2, rfl, g1, g2⟩ := hd
 refine enter Tryz.func82 Tryz.ntmps82 rfl rfl ?_
 repeat refine c_r ?_
 refine rg0 ?_
 repeat refine c_r ?_
 rw [new_size]
 refine W_alloc2 ?_
 intro w1 hE1 hs1 hA hB
 have p0 : cellO w1 (some ⟨A.heap.size, 0, Option.none⟩) = some hv := cellO_at hA rfl
 have p1 : cellO w1 (some ⟨A.heap.size, 1, Option.none⟩) = some dv := cellO_at hA rfl
 have q0 : cellO w1 (some ⟨A.heap.size + 1, 0, Option.none⟩) = some hv2 := cellO_at hB rfl
 have q1 : cellO w1 (some ⟨A.heap.size + 1, 1, Option.none⟩) = some dv2 := cellO_at hB rfl
 have hEw := (hE0.trans hEA).trans hE1
 have lx := hx.1.len
 have ly := hy.1.len
 refine rq ?_; intro gd K hgd hK
 have hg5 : ∀ n σ b, wantV gd n σ (some (5, b)) = boolIs (ev n σ (.tmp 10)) b := (fun n σ b => by rw [wantV_some, show gd 5 = some 10 from (by rw [hgd]; rfl)]; rfl)
 try simp (disch := first | omega | assumption | rfl) only [↓reduceIte, go_sem, Nat.reduceLT, Nat.reduceEqDiff, Nat.reduceSub, p0, q0, Nat.add_zero]
 refine Fn.mono (Same_ok _ _ _ _ _ (h1.ext hEw) (g1.ext hEw) hx.1.lb hy.1.lb (by omega) (by omega)) ?_
 rintro _ w2 ⟨rfl, hE2⟩
 have p1' := cellO_ext hE2 p1
 have q1' := cellO_ext hE2 q1
 by_cases hs : foldN x.1 = foldN y.1
 ·rw [decide_eq_true hs]
  try simp (disch := first | omega | assumption | rfl) only [↓reduceIte, go_sem, Nat.reduceLT, Nat.reduceEqDiff, Nat.reduceSub, p1', q1', Nat.zero_add, ↓hg5]
  refine Fn.mono (SameDs_ok (hEw.trans hE2) (h2.ext ((hEA.trans hE1).trans hE2)) (g2.ext ((hEA.trans hE1).trans hE2)) hx.2.1 hy.2.1 hx.2.2 hy.2.2) ?_
  rintro _ w3 ⟨rfl, hE3⟩
  try simp (disch := first | omega | assumption | rfl) only [↓reduceIte, go_sem, Nat.reduceLT, Nat.reduceEqDiff, Nat.reduceSub]
  refine hK _ _ ?_; clear hK hgd; clear K; try clear gd
  repeat refine c_r ?_
  refine rt0 Tryz.ntmps82 ?_
  exact ⟨by unfold sameG; rw [decide_eq_true hs, Bool.true_and], (hE1.trans hE2).trans hE3⟩
 ·rw [decide_eq_false hs]
  try simp (disch := first | omega | assumption | rfl) only [↓reduceIte, go_sem, Nat.reduceLT, Nat.reduceEqDiff, Nat.reduceSub, ↓hg5]
  refine hK _ _ ?_; clear hK hgd; clear K; try clear gd
  repeat refine c_r ?_
  refine rt0 Tryz.ntmps82 ?_
  exact ⟨by unfold sameG; rw [decide_eq_false hs, Bool.false_and], hE1.trans hE2⟩

theorem SameGs_ok {w0 w : World} (hE0 : Ext w0 w) {uv vv : Value} {xs ys : List (Nm × List DatL)} (hx : Rows 2 (GlC w0 w) w uv xs) (hy : Rows 2 (GlC w0 w) w vv ys) (hxo : ∀ x ∈ xs, NmS x.1 ∧ (∀ d ∈ x.2, DatOk d) ∧ x.2.length ≤ 1000000000) (hyo : ∀ x ∈ ys, NmS x.1 ∧ (∀ d ∈ x.2, DatOk d) ∧ x.2.length ≤ 1000000000) (hxl : xs.length ≤ 1000000000) (hyl : ys.length ≤ 1000000000) :
  Fn Tryz.prog 81 #[uv, vv, .func (.func 82) #[] #[]] w (fun v w' => v = .bool (eqAll sameG xs ys) ∧ Ext w w') :=
 P_eg.EqualFunc_ok (glc_shape w0 w) (glc_shape w0 w) hx hy rfl (fun A cs ds x y hE hxm hym hc hd => SameG_ok hE0 A hE hc hd (hxo x hxm) (hyo y hym)) hxl hyl

theorem LkSame_ok {w0 w : World} (hE0 : Ext w0 w) {ca cb : List Value} {a b : ResL} (ha : ResAt w0 w ca a) (hb : ResAt w0 w cb b) (oa : ResOk a) (ob : ResOk b) :
  Fn Tryz.prog 25 #[.agg ca.toArray, .agg cb.toArray] w (fun v w' => v = .bool (sameRes a b) ∧ Ext w w') := by
 obtain ⟨dv, nv, gv, rfl, a1, a2, a3⟩ := ha.ex
 obtain ⟨dv2, nv2, gv2, rfl, b1, b2, b3⟩ := hb.ex
 refine enter Tryz.func25 Tryz.ntmps25 rfl rfl ?_
 repeat refine c_r ?_
 refine rg0 ?_
 repeat refine c_r ?_
 rw [new_size]
 refine W_alloc2 ?_
 intro w1 hE1 hs1 hA hB
 have p0 : cellO w1 (some ⟨w.heap.size, 0, Option.none⟩) = some (vi a.kind) := cellO_at hA rfl
 have p3 : cellO w1 (some ⟨w.heap.size, 3, Option.none⟩) = some (.bool a.wild) := cellO_at hA rfl
 have p2 : cellO w1 (some ⟨w.heap.size, 2, Option.none⟩) = some nv := cellO_at hA rfl
 have q0 : cellO w1 (some ⟨w.heap.size + 1, 0, Option.none⟩) = some (vi b.kind) := cellO_at hB rfl
 have q3 : cellO w1 (some ⟨w.heap.size + 1, 3, Option.none⟩) = some (.bool b.wild) := cellO_at hB rfl
 have q2 : cellO w1 (some ⟨w.heap.size + 1, 2, Option.none⟩) = some nv2 := cellO_at hB rfl
 have lx := oa.nm.len
 have ly := ob.nm.len
 by_cases hk : a.kind = b.kind
 ·by_cases hw : (a.wild == b.wild) = true
  ·refine rq ?_; intro gd K hgd hK
   have hg5 : ∀ n σ b, wantV gd n σ (some (5, b)) = boolIs (ev n σ (.tmp 10)) b := (fun n σ b => by rw [wantV_some, show gd 5 = some 10 from (by rw [hgd]; rfl)]; rfl); have hg12 : ∀ n σ b, wantV gd n σ (some (12, b)) = boolIs (ev n σ (.tmp 17)) b := (fun n σ b => by rw [wantV_some, show gd 12 = some 17 from (by rw [hgd]; rfl)]; rfl); have hg19 : ∀ n σ b, wantV gd n σ (some (19, b)) = boolIs (ev n σ (.tmp 24)) b := (fun n σ b => by rw [wantV_some, show gd 19 = some 24 from (by rw [hgd]; rfl)]; rfl); have hg26 : ∀ n σ b, wantV gd n σ (some (26, b)) = boolIs (ev n σ (.tmp 31)) b := (fun n σ b => by rw [wantV_some, show gd 26 = some 31 from (by rw [hgd]; rfl)]; rfl)
   try simp (disch := first | omega | assumption | rfl) only [↓reduceIte, go_sem, Nat.reduceLT, Nat.reduceEqDiff, Nat.reduceSub, p0, q0, p3, q3, p2, q2, Nat.add_zero, Nat.zero_add, decide_eq_true hk, hw, ↓hg5, ↓hg12, ↓hg19, ↓hg26]
   refine Fn.mono (Same_ok _ _ _ _ _ (a2.ext hE1) (b2.ext hE1) oa.nm.lb ob.nm.lb (by omega) (by omega)) ?_
   rintro _ w2 ⟨rfl, hE2⟩
   have hE12 := hE1.trans hE2
   have p1 : cellO w2 (some ⟨w.heap.size, 1, Option.none⟩) = some dv := cellO_at (hE2.at hA) rfl
   have q1 : cellO w2 (some ⟨w.heap.size + 1, 1, Option.none⟩) = some dv2 := cellO_at (hE2.at hB) rfl
   by_cases hn : foldN a.name = foldN b.name
   ·rw [decide_eq_true hn]
    try simp (disch := first | omega | assumption | rfl) only [↓reduceIte, go_sem, Nat.reduceLT, Nat.reduceEqDiff, Nat.reduceSub, p1, q1, Nat.zero_add, ↓hg5, ↓hg12, ↓hg19, ↓hg26]
    refine Fn.mono (SameDs_ok (hE0.trans hE12) (a1.ext hE12) (b1.ext hE12) oa.dat ob.dat oa.dl ob.dl) ?_
    rintro _ w3 ⟨rfl, hE3⟩
    have hE13 := hE12.trans hE3
    have p4 : cellO w3 (some ⟨w.heap.size, 4, Option.none⟩) = some gv := cellO_at (Ext.at (hE2.trans hE3) hA) rfl
    have q4 : cellO w3 (some ⟨w.heap.size + 1, 4, Option.none⟩) = some gv2 := cellO_at (Ext.at (hE2.trans hE3) hB) rfl
    by_cases hd : eqAll sameD a.data b.data = true
    ·rw [hd]
     try simp (disch := first | omega | assumption | rfl) only [↓reduceIte, go_sem, Nat.reduceLT, Nat.reduceEqDiff, Nat.reduceSub, p4, q4, Nat.zero_add, ↓hg5, ↓hg12, ↓hg19, ↓hg26]
     refine Fn.mono (SameGs_ok (w0 := w0) (hE0.trans hE13) ((a3.ext hE13).to fun cs x hx => ?_) ((b3.ext hE13).to fun cs x hx => ?_) oa.g ob.g oa.gl ob.gl) ?_
     ·obtain ⟨hv, dv, e, g1, g2⟩ := hx
      exact ⟨hv, dv, e, g1, g2.ext hE13⟩
     ·obtain ⟨hv, dv, e, g1, g2⟩ := hx
      exact ⟨hv, dv, e, g1, g2.ext hE13⟩
     rintro _ w4 ⟨rfl, hE4⟩
     try simp (disch := first | omega | assumption | rfl) only [↓reduceIte, go_sem, Nat.reduceLT, Nat.reduceEqDiff, Nat.reduceSub]
     refine hK _ _ ?_; clear hK hgd; clear K; try clear gd
     repeat refine c_r ?_
     refine rt0 Tryz.ntmps25 ?_
     exact ⟨by unfold sameRes; rw [decide_eq_true hk, hw, decide_eq_true hn, hd, Bool.true_and, Bool.true_and, Bool.true_and, Bool.true_and], hE13.trans hE4⟩
    ·have hd' : eqAll sameD a.data b.data = false := by simpa using hd
     rw [hd']
     try simp (disch := first | omega | assumption | rfl) only [↓reduceIte, go_sem, Nat.reduceLT, Nat.reduceEqDiff, Nat.reduceSub, ↓hg5, ↓hg12, ↓hg19, ↓hg26]
     refine hK _ _ ?_; clear hK hgd; clear K; try clear gd
     repeat refine c_r ?_
     refine rt0 Tryz.ntmps25 ?_
     exact ⟨by unfold sameRes; rw [decide_eq_true hk, hw, decide_eq_true hn, hd', Bool.true_and, Bool.true_and, Bool.true_and, Bool.false_and], hE13⟩
   ·rw [decide_eq_false hn]
    try simp (disch := first | omega | assumption | rfl) only [↓reduceIte, go_sem, Nat.reduceLT, Nat.reduceEqDiff, Nat.reduceSub, ↓hg5, ↓hg12, ↓hg19, ↓hg26]
    refine hK _ _ ?_; clear hK hgd; clear K; try clear gd
    repeat refine c_r ?_
    refine rt0 Tryz.ntmps25 ?_
    exact ⟨by unfold sameRes; rw [decide_eq_true hk, hw, decide_eq_false hn, Bool.true_and, Bool.true_and, Bool.false_and], hE12⟩
  ·have hw' : (a.wild == b.wild) = false := by simpa using hw
   refine rq ?_; intro gd K hgd hK
   have hg5 : ∀ n σ b, wantV gd n σ (some (5, b)) = boolIs (ev n σ (.tmp 10)) b := (fun n σ b => by rw [wantV_some, show gd 5 = some 10 from (by rw [hgd]; rfl)]; rfl); have hg12 : ∀ n σ b, wantV gd n σ (some (12, b)) = boolIs (ev n σ (.tmp 17)) b := (fun n σ b => by rw [wantV_some, show gd 12 = some 17 from (by rw [hgd]; rfl)]; rfl); have hg19 : ∀ n σ b, wantV gd n σ (some (19, b)) = boolIs (ev n σ (.tmp 24)) b := (fun n σ b => by rw [wantV_some, show gd 19 = some 24 from (by rw [hgd]; rfl)]; rfl); have hg26 : ∀ n σ b, wantV gd n σ (some (26, b)) = boolIs (ev n σ (.tmp 31)) b := (fun n σ b => by rw [wantV_some, show gd 26 = some 31 from (by rw [hgd]; rfl)]; rfl)
   try simp (disch := first | omega | assumption | rfl) only [↓reduceIte, go_sem, Nat.reduceLT, Nat.reduceEqDiff, Nat.reduceSub, p0, q0, p3, q3, Nat.add_zero, Nat.zero_add, decide_eq_true hk, hw', ↓hg5, ↓hg12, ↓hg19, ↓hg26]
   refine hK _ _ ?_; clear hK hgd; clear K; try clear gd
   repeat refine c_r ?_
   refine rt0 Tryz.ntmps25 ?_
   exact ⟨by unfold sameRes; rw [decide_eq_true hk, hw', Bool.true_and, Bool.false_and], hE1⟩
 ·refine rq ?_; intro gd K hgd hK
  have hg5 : ∀ n σ b, wantV gd n σ (some (5, b)) = boolIs (ev n σ (.tmp 10)) b := (fun n σ b => by rw [wantV_some, show gd 5 = some 10 from (by rw [hgd]; rfl)]; rfl); have hg12 : ∀ n σ b, wantV gd n σ (some (12, b)) = boolIs (ev n σ (.tmp 17)) b := (fun n σ b => by rw [wantV_some, show gd 12 = some 17 from (by rw [hgd]; rfl)]; rfl); have hg19 : ∀ n σ b, wantV gd n σ (some (19, b)) = boolIs (ev n σ (.tmp 24)) b := (fun n σ b => by rw [wantV_some, show gd 19 = some 24 from (by rw [hgd]; rfl)]; rfl); have hg26 : ∀ n σ b, wantV gd n σ (some (26, b)) = boolIs (ev n σ (.tmp 31)) b := (fun n σ b => by rw [wantV_some, show gd 26 = some 31 from (by rw [hgd]; rfl)]; rfl)
  try simp (disch := first | omega | assumption | rfl) only [↓reduceIte, go_sem, Nat.reduceLT, Nat.reduceEqDiff, Nat.reduceSub, p0, q0, Nat.add_zero, Nat.zero_add, decide_eq_false hk, ↓hg5, ↓hg12, ↓hg19, ↓hg26]
  refine hK _ _ ?_; clear hK hgd; clear K; try clear gd
  repeat refine c_r ?_
  refine rt0 Tryz.ntmps25 ?_
  exact ⟨by unfold sameRes; rw [decide_eq_false hk, Bool.false_and], hE1⟩
end Go.Proofs.YtopbbjdembnfdaaGreat

namespace Go.Proofs.YtopbbjdembnfdaaGreat
open Go
set_option maxRecDepth 10000

end Go.Proofs.YtopbbjdembnfdaaGreat

namespace Go.Proofs.YtopbbjdembnfdaaGreat
open Go
set_option maxRecDepth 10000

def Fr (A : World) (bad : Nat → Prop) (F : World → Prop) : Prop := ∀ x, Keep bad A x → F x
theorem Fr.self {A : World} {bad : Nat → Prop} {F : World → Prop} (h : Fr A bad F) : F A := h A (Keep.refl _ _)
theorem Fr.step {A A' : World} {bad bad' : Nat → Prop} {F : World → Prop} (h : Fr A bad F) (hk : Keep bad A A') (hb : ∀ b, bad' b → b < A.heap.size → bad b) : Fr A' bad' F := fun x hx =>
 h x ⟨hx.os.trans hk.os, hx.tape.trans hk.tape, hx.output.trans hk.output, Nat.le_trans hk.size hx.size, fun b hbl hn => (hx.block b (Nat.lt_of_lt_of_le hbl hk.size) (fun h => hn (hb b h hbl))).trans (hk.block b hbl hn), Nat.le_trans hk.drawn hx.drawn⟩
theorem Fr.ext {A A' : World} {bad bad' : Nat → Prop} {F : World → Prop} (h : Fr A bad F) (hk : Ext A A') (hb : ∀ b, bad' b → b < A.heap.size → bad b) : Fr A' bad' F :=
 h.step (hk.mono fun _ _ h => h.elim) hb

theorem DatX.fr {w0 A : World} {B : Nat} {nm : Value} {cs : List Value} {d : DatL} (h : DatX w0 B A nm cs d) (hE : Ext w0 A) {bad : Nat → Prop} (h1 : ∀ b, bad b → b < B) (h2 : ∀ b, bad b → w0.heap.size ≤ b) : Fr A bad (fun x => DatAt x cs d) := fun x hx =>
 (h.keep hx (fun a n c hv hb => by have := (h.blk a n c hv).1; have := h1 _ hb; omega)).at (Keep.to_ext hE rfl h2 hx)

abbrev DX := DatL × List Value
def dxC (cs : List Value) (x : DX) : Prop := cs = x.2 ∧ cs.length = 5 ∧ ∀ q ∈ cs, one q = true
theorem DatX.cells {w0 A : World} {B : Nat} {nm : Value} {cs : List Value} {d : DatL} (h : DatX w0 B A nm cs d) : cs.length = 5 ∧ ∀ q ∈ cs, one q = true := by
 obtain ⟨b1, m1, e1, b2, m2, e2, b3, m3, e3, b4, m4, e4, hds⟩ := h.open
 rw [hds]
 refine ⟨rfl, fun q hq => ?_⟩
 simp at hq
 rcases hq with rfl | rfl | rfl | rfl | rfl <;> rfl
structure DI (B : Nat) (bad : Nat → Prop) (A : World) (dv : Value) (G : List DX) : Prop where
 own : Owns 5 dxC B A 132 dv G
 fr : ∀ y ∈ G, Fr A (fun b => some b = dv.ownBlock ∨ bad b) (fun x => DatAt x y.2 y.1)
theorem DI.nil {B : Nat} {bad : Nat → Prop} {A : World} : DI B bad A (.slice Option.none 0 0) [] := ⟨Owns.nil _ _ _ _ _, fun y h => absurd h (by simp)⟩
theorem DI.rows {B : Nat} {bad : Nat → Prop} {A : World} {dv : Value} {G : List DX} (h : DI B bad A dv G) (hB : ∀ b, bad b → b < B) : Fr A bad (fun x => Rows 5 (DatAt x) x dv (G.map Prod.fst)) := fun x hx =>
 (h.own.keep hx (fun b hb h2 => by have := (h.own.ge hb).1; have := hB b h2; omega)).rows.mapM Prod.fst (fun cs y hy hc => by
  rw [hc.1]
  exact h.fr y hy x (hx.mono fun _ _ h => .inr h))

def GF (y : GlX) (x : World) : Prop := Row x y.2.1 (y.1.1.map vs) ∧ Rows 5 (DatAt x) x y.2.2 y.1.2
structure GI (B : Nat) (bad : Nat → Prop) (A : World) (gv : Value) (G : List GlX) (F : World → Prop) : Prop where
 own : Owns 2 glC B A 143 gv G
 fr : ∀ y ∈ G, Fr A (fun b => some b = gv.ownBlock ∨ bad b) (GF y)
 dat : Fr A (fun b => some b = gv.ownBlock ∨ bad b) F
theorem GI.ext {B : Nat} {bad : Nat → Prop} {A A' : World} {gv : Value} {G : List GlX} {F : World → Prop} (h : GI B bad A gv G F) (hE : Ext A A') : GI B bad A' gv G F :=
 ⟨h.own.ext hE, fun y hy => (h.fr y hy).ext hE (fun b h _ => h), h.dat.ext hE (fun b h _ => h)⟩
end Go.Proofs.YtopbbjdembnfdaaGreat

namespace Go.Proofs.YtopbbjdembnfdaaGreat
open Go

def NumR (R : List RecL) : Prop := ∀ r ∈ R, ∀ n ∈ r.dat.nums, 0 ≤ n ∧ n ≤ 4294967295
theorem checkN_lb {n : Nm} (h : checkN n = 0) : LB n := fun l hl => by have := (checkN_labels h l hl).2; omega
theorem good_dat {R : List RecL} (h : GoodRs R) (hv : NumR R) : ∀ r ∈ R, DatOk r.dat := fun r hr => by
 have hf := (h.few r hr).2
 exact ⟨fun n hn => ⟨checkN_lb (h.names r hr n hn), by have := (hf.names n hn).2; omega⟩, by have := hf.nn; omega, by have := hf.nu; omega, by have := hf.nt; omega, hv r hr, by have := hf.nr; omega⟩
theorem good_ok {R : List RecL} (h : GoodRs R) (hv : NumR R) : ∀ r ∈ R, RecOk r := fun r hr =>
 ⟨checkN_lb (h.own r hr), by have := checkN_len (h.own r hr); omega, good_dat h hv r hr⟩
structure GoodC (R : List RecL) : Prop where
 ok : ∀ r ∈ R, RecOk r
 srt : SortR R
 gd : GoodR R
 ld : LeadR R
 len : R.length ≤ 60
 nn : ∀ r ∈ R, r.dat.names.length ≤ 1000000000
theorem good_canon {R : List RecL} (h : GoodRs R) (hv : NumR R) : GoodC (canonL R) := by
 refine ⟨canonL_all (fun a b h => ⟨h.lb, h.len, h.dat⟩) (good_ok h hv), canonL_sorted R, ?_, ?_, Nat.le_trans (canonL_len R) h.len, ?_⟩
 ·exact canonL_all (Q := fun r => ∀ n ∈ r.dat.names, NmG n) (fun a b h => h) (fun r hr n hn => checkN_g (h.names r hr n hn))
 ·refine canonL_all (Q := fun r => (r.dat.ty = 2 ∨ r.dat.ty = 5 ∨ r.dat.ty = 39) → r.dat.names ≠ []) (fun a b h => h) (fun r hr ht hn => ?_)
  have := h.lead r hr ht
  rw [hn] at this
  cases this
 ·exact canonL_all (Q := fun r => r.dat.names.length ≤ 1000000000) (fun a b h => h) (fun r hr => (h.few r hr).2.nn)
theorem good_zone {w0 w : World} {ov lv : Value} {o : Nm} {R : List RecL} (h : GoodC R) (hE : Ext w0 w) (ho : Row w ov (o.map vs)) (hl : Rows 7 (RecAt w0) w lv R) (hg : goodN o = true) : ZnAt w0 w ov lv o R :=
 ⟨hE, ho, hl, (goodN_g hg).m.s.lb, (goodN_g hg).m.s.len, h.ok, by have := h.len; omega⟩

structure ResF (P : DatL → Prop) (m : Nat) (r : ResL) : Prop where
 nm : NmS r.name
 dat : ∀ d ∈ r.data, P d
 dl : r.data.length ≤ m
 gl : r.glue.length ≤ m
 g : ∀ x ∈ r.glue, NmS x.1 ∧ (∀ d ∈ x.2, P d) ∧ x.2.length ≤ m + m
theorem resF_plain {P : DatL → Prop} {m : Nat} {k : Int} {ds : List DatL} {n : Nm} {b : Bool} (hn : NmS n) (hd : ∀ d ∈ ds, P d) (hl : ds.length ≤ m) : ResF P m ⟨k, ds, n, b, []⟩ :=
 ⟨hn, hd, hl, Nat.zero_le _, fun x h => by cases h⟩
theorem nil_s : NmS [] := ⟨fun l h => (by cases h), Nat.zero_le _⟩
section
variable {P : DatL → Prop} {R : List RecL} {o : Nm}
theorem datC_P (hP : ∀ r ∈ R, P r.dat) {n : Nm} {t : Int} : ∀ d ∈ datC R n t, P d := fun d hd => by
 obtain ⟨r, hr, rfl⟩ := datC_mem hd
 exact hP r hr
theorem refer_F (hP : ∀ r ∈ R, P r.dat) (hG : GoodR R) {n : Nm} (hn : NmS n) : ResF P R.length (referL R n) := by
 refine ⟨hn, datC_P hP, datC_len, ?_, fun x hx => ?_⟩
 ·exact Nat.le_trans (glueOf_len _ _) (Nat.le_trans (hostsG_len _ _) (Nat.le_trans (targets_len _ _) datC_len))
 ·obtain ⟨h, hh, he⟩ := List.mem_filterMap.1 hx
  split at he
  ·cases he
  ·cases he
   refine ⟨(targets_good hG (n := n) (t := 2) (fun d hd => hd) h (hostsG_mem _ _ h hh)).m.s, fun d hd => ?_, ?_⟩
   ·unfold glueL at hd
    rcases List.mem_append.1 hd with hd | hd
    ·exact datC_P hP d hd
    ·exact datC_P hP d hd
   ·have h1 := datC_len (R := R) (n := h) (t := 1)
    have h2 := datC_len (R := R) (n := h) (t := 28)
    show (glueL R h).length ≤ _
    unfold glueL
    rw [List.length_append]; omega
theorem take_P (hP : ∀ r ∈ R, P r.dat) {n : Nm} {t : Int} : (∀ d ∈ (datC R n t).take 1, P d) ∧ ((datC R n t).take 1).length ≤ R.length :=
 ⟨fun d hd => datC_P hP d (List.mem_of_mem_take hd), by have := datC_len (R := R) (n := n) (t := t); rw [List.length_take]; omega⟩
theorem renamed_F (hP : ∀ r ∈ R, P r.dat) (hG : GoodR R) {q n : Nm} (hq : NmM q) {r : ResL} (h : renamedL R q n = some r) : ResF P R.length r := by
 unfold renamedL at h
 split at h
 ·cases h
 ·split at h
  ·cases h
   have hm := swap_m hq (toN_m hG (n := n) (t := 39) (u := 39)) (f := n)
   exact resF_plain ⟨fun l hl => by have := hm.1 l hl; omega, by have := hm.2; omega⟩ (take_P hP).1 (take_P hP).2
  ·cases h
   exact resF_plain nil_s (fun d h => by cases h) (Nat.zero_le _)
theorem at_F (hP : ∀ r ∈ R, P r.dat) (hG : GoodR R) {n : Nm} {t : Int} {b : Bool} : ResF P R.length (atL R n t b) := by
 unfold atL
 split
 ·exact resF_plain nil_s (datC_P hP) datC_len
 ·split
  ·exact resF_plain (toN_m hG).s (take_P hP).1 (take_P hP).2
  ·exact resF_plain nil_s (fun d h => by cases h) (Nat.zero_le _)
theorem go_F (hP : ∀ r ∈ R, P r.dat) (hG : GoodR R) {q : Nm} (hq : NmM q) : ∀ {l : List Nm} {r : ResL}, (∀ n ∈ l, NmS n) → goL o R q l = some r → ResF P R.length r
 | [], r, _, h => by cases h
 | n :: l, r, hl, h => by
  simp only [goL] at h
  split at h
  ·cases h
   exact refer_F hP hG (hl n (List.mem_cons_self ..))
  ·split at h
   ·cases h
   ·split at h
    ·rename_i r' hr
     cases h
     exact renamed_F hP hG hq hr
    ·exact go_F hP hG hq (fun x hx => hl x (List.mem_cons_of_mem _ hx)) h
theorem look_F (hP : ∀ r ∈ R, P r.dat) (hG : GoodR R) {q : Nm} {t : Int} (hq : NmM q) : ResF P R.length (lookL o R q t) := by
 unfold lookL
 split
 ·exact resF_plain nil_s (fun d h => by cases h) (Nat.zero_le _)
 ·split
  ·rename_i r hr
   refine go_F hP hG hq (fun n hn => ?_) hr
   unfold downs at hn
   split at hn
   ·obtain ⟨i, _, rfl⟩ := downF_mem.1 hn
    exact (hq.drop i).s
   ·cases hn
  ·split
   ·exact at_F hP hG
   ·split
    ·exact at_F hP hG
    ·exact resF_plain nil_s (fun d h => by cases h) (Nat.zero_le _)
end
theorem look_ok {R : List RecL} (h : GoodC R) {o q : Nm} {t : Int} (hq : NmM q) : ResOk (lookL o R q t) := by
 have h1 := look_F (o := o) (P := DatOk) (fun r hr => (h.ok r hr).dat) h.gd (t := t) hq
 have hl := h.len
 exact ⟨h1.nm, h1.dat, by have := h1.dl; omega, by have := h1.gl; omega, fun x hx => by
  obtain ⟨a, b, c⟩ := h1.g x hx
  exact ⟨a, b, by omega⟩⟩
theorem cmpD_self (d : DatL) : cmpD d d = 0 := by
 have := cpr_D.neg d d
 omega
theorem sameRes_self (r : ResL) : sameRes r r = true := by
 have hD : ∀ d, sameD d d = true := fun d => by unfold sameD; rw [cmpD_self]; rfl
 have hGs : ∀ g, sameG g g = true := fun g => by unfold sameG; rw [eqAll_self hD]; simp
 unfold sameRes
 rw [eqAll_self hD, eqAll_self hGs]
 simp
theorem ResAt.base {w0 w : World} {cs : List Value} {r : ResL} (h : ResAt w0 w cs r) (hE : Ext w0 w) : ResAt w w cs r := by
 obtain ⟨dv, nv, gv, e, h1, h2, h3⟩ := h.ex
 refine ⟨dv, nv, gv, e, h1.to fun cs d hd => hd.ext hE, h2, h3.to fun cs x hx => ?_⟩
 obtain ⟨hv, dv, e, g1, g2⟩ := hx
 exact ⟨hv, dv, e, g1.ext hE, g2.to fun cs d hd => hd.ext hE⟩
end Go.Proofs.YtopbbjdembnfdaaGreat

namespace Go.Proofs.YtopbbjdembnfdaaGreat
open Go
set_option maxRecDepth 100000
section
variable {H : Type} {enc : TypeId × Value → H} {P : Program} {w : World} {base : Nat} {sp : Nat → Bool} {held : Bool}

theorem rd_ints {t e : TypeId} {k : IntKind} {v : Value} (h : Rd enc P w base sp held t v) (ht : P.underlying t = some (.slice e)) (hc : P.cellsOf e = 1) (he : P.underlying e = some (.int k)) : ∃ l : List Int, Row w v (l.map (.int k)) ∧ ∀ n ∈ l, (Lit.int k n).wf = true := by
 obtain ⟨vals, hr, hall, _⟩ := rd_slice h ht hc
 obtain ⟨m, rfl, hm⟩ := list_of (f := fun n => Value.int k n) (Q := fun n => (Lit.int k n).wf = true) (fun u hu => by
  obtain ⟨n, h1, h2⟩ := rd_int (hall u hu).c he
  exact ⟨n, by simpa using h1, h2⟩)
 exact ⟨m, hr, hm⟩

theorem wf_u32 {n : Int} (h : (Lit.int .u32 n).wf = true) : 0 ≤ n ∧ n ≤ 4294967295 := by
 simp [Lit.wf, IntKind.min, IntKind.max, IntKind.signed, IntKind.bits] at h
 omega
theorem wf_u8 {n : Int} (h : (Lit.int .u8 n).wf = true) : 0 ≤ n ∧ n ≤ 255 := by
 simp [Lit.wf, IntKind.min, IntKind.max, IntKind.signed, IntKind.bits] at h
 omega
theorem bytes_of {l : List Int} (h : ∀ n ∈ l, (Lit.int .u8 n).wf = true) : ∃ m : List UInt8, l.map (Value.int .u8) = m.map byteV := by
 induction l with
 | nil => exact ⟨[], rfl⟩
 | cons n l ih =>
  obtain ⟨m, hm⟩ := ih (fun x hx => h x (List.mem_cons_of_mem _ hx))
  have hb := wf_u8 (h n (List.mem_cons_self ..))
  obtain ⟨k, rfl⟩ : ∃ k : Nat, n = (k : Int) := ⟨n.toNat, by omega⟩
  exact ⟨UInt8.ofNat k :: m, by rw [List.map_cons, List.map_cons, hm, byteV_of (by omega)]⟩

theorem rd_data {cs : List Value} (h : RdC enc Tryz.prog w base sp held 59 cs) : ∃ d : DatL, DatAt w cs d ∧ ∀ n ∈ d.nums, 0 ≤ n ∧ n ≤ 4294967295 := by
 obtain ⟨hl, hf⟩ := rd_field h rfl
 have hl5 : cs.length = 5 := hl
 match cs, hl5 with
 | [c0, c1, c2, c3, c4], _ =>
  obtain ⟨ty, e0, _⟩ := rd_int (hf 0 _ rfl) rfl
  obtain ⟨names, n1, _⟩ := rd_names (P := Tryz.prog) (ts := 23) (tb := 9) (RdC.one (hf 1 _ rfl)) rfl rfl rfl rfl rfl rfl
  obtain ⟨nums, n2, n3⟩ := rd_ints (RdC.one (hf 2 _ rfl)) rfl rfl rfl
  obtain ⟨texts, n4, _⟩ := rd_name (P := Tryz.prog) (RdC.one (hf 3 _ rfl)) (e := 9) rfl rfl rfl rfl
  obtain ⟨raw, n5, n6⟩ := rd_ints (RdC.one (hf 4 _ rfl)) rfl rfl rfl
  obtain ⟨rb, hrb⟩ := bytes_of n6
  rw [hrb] at n5
  have e0' : c0 = vi ty := List.head_eq_of_cons_eq (show [c0] = [vi ty] from e0)
  exact ⟨⟨ty, names, nums, texts, rb⟩, ⟨c1, c2, c3, c4, by rw [e0'], n1, n2, n4, n5⟩, fun n hn => wf_u32 (n3 n hn)⟩
theorem rd_rec {cs : List Value} (h : RdC enc Tryz.prog w base sp held 110 cs) : ∃ r : RecL, RecAt w cs r ∧ ∀ n ∈ r.dat.nums, 0 ≤ n ∧ n ≤ 4294967295 := by
 obtain ⟨hl, hf⟩ := rd_field h rfl
 have hl7 : cs.length = 7 := hl
 match cs, hl7 with
 | [c0, c1, c2, c3, c4, c5, c6], _ =>
  obtain ⟨owner, n0, _⟩ := rd_name (P := Tryz.prog) (RdC.one (hf 0 _ rfl)) (e := 9) rfl rfl rfl rfl
  obtain ⟨ttl, e1, _⟩ := rd_int (hf 1 _ rfl) rfl
  obtain ⟨d, hd, hn⟩ := rd_data (hf 2 _ rfl)
  have e1' : c1 = v32 ttl := List.head_eq_of_cons_eq (show [c1] = [v32 ttl] from e1)
  have hd' : DatAt w [c2, c3, c4, c5, c6] d := hd
  exact ⟨⟨owner, ttl, d⟩, ⟨c0, [c2, c3, c4, c5, c6], by rw [e1'], n0, hd'⟩, hn⟩
theorem rd_recs {v : Value} (h : Rd enc Tryz.prog w base sp held 24 v) : ∃ R : List RecL, Rows 7 (RecAt w) w v R ∧ NumR R := by
 obtain ⟨L, hL, hall, _⟩ := rd_sliceC h (e := 110) (k := 7) rfl rfl
 have : ∀ L : List (List Value), (∀ cs ∈ L, RdC enc Tryz.prog w base sp held 110 cs) → ∃ R : List RecL, L.length = R.length ∧ (∀ i (h : i < L.length) (h' : i < R.length), RecAt w L[i] R[i]) ∧ NumR R := fun L => by
  induction L with
  | nil => intro _; exact ⟨[], rfl, fun i h => by simp at h, fun r h => by cases h⟩
  | cons cs L ih =>
   intro h
   obtain ⟨r, h1, h2⟩ := rd_rec (h cs (List.mem_cons_self ..))
   obtain ⟨R, a1, a2, a3⟩ := ih (fun x hx => h x (List.mem_cons_of_mem _ hx))
   refine ⟨r :: R, by simp [a1], fun i a b => ?_, fun x hx => ?_⟩
   ·cases i with
    | zero => exact h1
    | succ i => exact a2 i (by simpa using a) (by simpa using b)
   ·rcases List.mem_cons.1 hx with rfl | hx
    ·exact h2
    ·exact a3 x hx
 obtain ⟨R, a1, a2, a3⟩ := this L hall
 exact ⟨R, ⟨L, hL, a1, a2⟩, a3⟩
end
end Go.Proofs.YtopbbjdembnfdaaGreat

namespace Go.Proofs.YtopbbjdembnfdaaGreat
open Go
set_option maxRecDepth 100000

def kO : Nm := [[111]]
def kA : DatL := ⟨1, [], [], [], [1, 2, 3, 4]⟩
def kNs : Nm := [[110, 115], [115], [111]]
def kNsD : DatL := ⟨2, [kNs], [], [], []⟩
def kDn : DatL := ⟨39, [[[116]]], [], [], []⟩
def kCn : DatL := ⟨5, [[[99]]], [], [], []⟩
def kRs : List RecL := [⟨[[97], [111]], 0, kA⟩, ⟨[[115], [111]], 0, kNsD⟩, ⟨kNs, 0, kA⟩, ⟨[[100], [111]], 0, kDn⟩, ⟨[[42], [119], [111]], 0, kCn⟩]
def kL (q : Nm) : ResL := lookL kO (canonL kRs) q 1
theorem k_a : kL [[65], [111]] = ⟨1, [kA], [], false, []⟩ := by kernel_rfl
theorem k_s : kL [[113], [115], [111]] = ⟨4, [kNsD], [[115], [111]], false, [(kNs, [kA])]⟩ := by kernel_rfl
theorem k_d : kL [[112], [100], [111]] = ⟨5, [kDn], [[112], [116]], false, []⟩ := by kernel_rfl
theorem k_w : kL [[112], [119], [111]] = ⟨5, [kCn], [[99]], true, []⟩ := by kernel_rfl
theorem k_v : kL [[118], [111]] = ⟨3, [], [], false, []⟩ := by kernel_rfl
theorem k_e : kL [[119], [111]] = ⟨2, [], [], false, []⟩ := by kernel_rfl
theorem k_p : kL [[112]] = ⟨7, [], [], false, []⟩ := by kernel_rfl
theorem k_rs : GoodRs kRs := by
 refine ⟨by decide, ?_, ?_, ?_, ?_⟩
 all_goals
  intro r hr
  simp only [kRs, List.mem_cons, List.not_mem_nil, or_false] at hr
 ·rcases hr with rfl | rfl | rfl | rfl | rfl
  all_goals
   refine ⟨by kernel_rfl, ⟨?_, by decide, by decide, by decide, ?_, by decide⟩⟩
   ·intro n hn
    simp only [kA, kNsD, kDn, kCn, List.mem_cons, List.not_mem_nil, or_false] at hn
    try subst hn
    try decide
   ·intro l hl; cases hl
 ·rcases hr with rfl | rfl | rfl | rfl | rfl <;> kernel_rfl
 ·rcases hr with rfl | rfl | rfl | rfl | rfl
  all_goals
   intro n hn
   simp only [kA, kNsD, kDn, kCn, List.mem_cons, List.not_mem_nil, or_false] at hn
   try subst hn
   try kernel_rfl
 ·rcases hr with rfl | rfl | rfl | rfl | rfl
  all_goals
   intro ht
   first | rfl | (simp [leadT, kA] at ht)
theorem k_num : NumR kRs := by
 intro r hr
 simp only [kRs, List.mem_cons, List.not_mem_nil, or_false] at hr
 rcases hr with rfl | rfl | rfl | rfl | rfl <;> (intro n hn; cases hn)
theorem k_good : GoodC (canonL kRs) := good_canon k_rs k_num
end Go.Proofs.YtopbbjdembnfdaaGreat

namespace Go.Proofs.YtopbbjdembnfdaaGreat
open Go
set_option maxRecDepth 10000

def KnownOk : Prop := ∀ w : World, Fn Tryz.prog 15 #[] w (fun v w' => v = .bool true ∧ Ext w w')

end Go.Proofs.YtopbbjdembnfdaaGreat

namespace Go.Proofs.YtopbbjdembnfdaaGreat
open Go
section
variable {P : Program} {x : World} {e : TypeId} {K : Value → World → Prop}
theorem sv_new {t : TypeId} {cur : Array Value} {l : List Value} (hl : l.length = cur.size) (h1 : ∀ v ∈ l, one v = true) (hs : tyS P t = l.length) (hi : (P.info? t).isSome = true)
  (hK : ∀ w', Ext x w' → w'.heap.size = x.heap.size + 1 → w'.heap[x.heap.size]? = some (.cells l.toArray e (0, 0)) → K undef w') : stK P t (.pointer (some ⟨x.heap.size, 0, Option.none⟩)) (.agg l.toArray) (x.alloc (.cells cur e (0, 0))) K := by
 have hB3 := new_block x (.cells cur e (0, 0))
 have hE4 := Ext.alloc x (.cells cur e (0, 0))
 have hs4 := new_size x (.cells cur e (0, 0))
 refine sv_all (P := P) (t := t) (l := l) hB3 hl h1 hs hi ?_
 intro w5 hs5 hB5 hk5
 exact hK w5 (Keep.to_ext hE4 rfl (fun b hb => by omega) hk5) (by omega) hB5
theorem Row.isOne {w : World} {v : Value} {l : List Value} (h : Row w v l) : one v = true := by
 obtain ⟨a, c, rfl, _⟩ := h; rfl
theorem Rows.isOne {α : Type} {k : Nat} {C : List Value → α → Prop} {w : World} {v : Value} {l : List α} (h : Rows k C w v l) : one v = true := by
 obtain ⟨a, c, rfl, _⟩ := h.open; rfl
theorem two_one {a b : Value} (ha : one a = true) (hb : one b = true) : ∀ v ∈ [a, b], one v = true := fun v h => by
 simp at h
 rcases h with rfl | rfl <;> assumption
end
end Go.Proofs.YtopbbjdembnfdaaGreat

namespace Go.Proofs.YtopbbjdembnfdaaGreat
open Go

theorem foldB_two (c : UInt8) : foldB (foldB c) = foldB c := by
 by_cases h : 65 ≤ c ∧ c ≤ 90
 ·rw [foldB_up h]
  refine foldB_no (fun h2 => ?_)
  have a := UInt8.le_iff_toNat_le.1 h.1
  have b := UInt8.le_iff_toNat_le.1 h.2
  have d := UInt8.le_iff_toNat_le.1 h2.2
  simp at a b d
  have : (c + 32).toNat = c.toNat + 32 := by rw [UInt8.toNat_add]; simp; omega
  omega
 ·rw [foldB_no h, foldB_no h]
theorem foldL_two (l : List UInt8) : foldL (foldL l) = foldL l := by
 unfold foldL
 rw [List.map_map]
 exact List.map_congr_left fun c _ => foldB_two c
theorem foldN_two (n : Nm) : foldN (foldN n) = foldN n := by
 unfold foldN
 rw [List.map_map]
 exact List.map_congr_left fun c _ => foldL_two c
theorem foldL_length (l : List UInt8) : (foldL l).length = l.length := by simp [foldL]

def Alk (a b : ResL) : Prop := ∃ n, b = { a with name := n } ∧ foldN n = foldN a.name
theorem Alk.self (a : ResL) : Alk a a := ⟨a.name, rfl, rfl⟩
theorem sameD_self (d : DatL) : sameD d d = true := by unfold sameD; rw [cmpD_self]; rfl
theorem sameG_self (g : Nm × List DatL) : sameG g g = true := by unfold sameG; rw [eqAll_self sameD_self]; simp
theorem Alk.same {a b : ResL} (h : Alk a b) : sameRes a b = true := by
 obtain ⟨n, rfl, h⟩ := h
 unfold sameRes
 rw [eqAll_self sameD_self, eqAll_self sameG_self, h]
 simp
theorem Alk.kind {a b : ResL} (h : Alk a b) : b.kind = a.kind := by
 obtain ⟨n, rfl, h⟩ := h; rfl
section
variable {R : List RecL} {o q n : Nm} {t : Int}
theorem isL_fold (n : Nm) (t : Int) : isL (foldN n) t = isL n t := by
 funext r
 unfold isL
 rw [foldN_two]
theorem ofC_fold : ofC R (foldN n) t = ofC R n t := by unfold ofC; rw [isL_fold]
theorem datC_fold : datC R (foldN n) t = datC R n t := by unfold datC; rw [ofC_fold]
theorem hasL_fold : hasL R (foldN n) t = hasL R n t := by unfold hasL; rw [isL_fold]
theorem cutP_fold : cutP o R (foldN n) = cutP o R n := by unfold cutP; rw [hasL_fold, foldN_len]
theorem under_fold_l : under (foldN q) o = under q o := by
 unfold under
 rw [foldN_len, foldN_drop, foldN_drop, foldN_two]
theorem under_fold_r : under q (foldN o) = under q o := by
 unfold under
 rw [foldN_len, foldN_two]
theorem existsL_fold : existsL o R (foldN n) = existsL o R n := by
 unfold existsL
 rw [under_fold_l, foldN_len, show (fun r : RecL => under r.owner (foldN n)) = fun r => under r.owner n from funext fun r => under_fold_r]
theorem downF_fold (n : Nm) : ∀ k, downF (foldN n) k = (downF n k).map foldN
 | 0 => by simp only [downF, List.map_cons, List.map_nil]; rw [foldN_drop]
 | k + 1 => by simp only [downF, List.map_cons]; rw [downF_fold n k, foldN_drop]
theorem downs_fold : downs o (foldN q) = (downs o q).map foldN := by
 unfold downs
 rw [foldN_len]
 split
 ·exact downF_fold q _
 ·rfl
theorem takeWhile_mapF {p : Nm → Bool} (hp : ∀ n, p (foldN n) = p n) : ∀ l : List Nm, (l.map foldN).takeWhile p = (l.takeWhile p).map foldN
 | [] => rfl
 | a :: l => by
  simp only [List.map_cons, List.takeWhile_cons, hp]
  split
  ·rw [takeWhile_mapF hp l]; rfl
  ·rfl
theorem encl_fold : enclL o R (foldN q) = foldN (enclL o R q) := by
 unfold enclL
 rw [under_fold_l]
 split
 ·rw [downs_fold, takeWhile_mapF (fun n => existsL_fold), List.getLast?_map]
  cases ((downs o q).takeWhile (existsL o R)).getLast? with
  | none => rfl
  | some x => rfl
 ·rfl
theorem sourceN_fold : sourceN o R (foldN q) = foldN (sourceN o R q) := by
 unfold sourceN
 rw [encl_fold]; rfl
theorem owns_fold : ownsL R (foldN n) = ownsL R n := by
 unfold ownsL
 rw [foldN_two]
theorem source_fold : sourceL o R (foldN q) = (sourceL o R q).map foldN := by
 unfold sourceL
 rw [sourceN_fold, owns_fold]
 split <;> rfl
theorem at_fold {b : Bool} : atL R (foldN n) t b = atL R n t b := by
 unfold atL
 rw [datC_fold, datC_fold]
theorem refer_fold : Alk (referL R n) (referL R (foldN n)) := by
 refine ⟨foldN n, ?_, foldN_two n⟩
 unfold referL
 rw [datC_fold]
def LenN (a b : Nm) : Prop := a.map List.length = b.map List.length
theorem checkN_len_eq {a b : Nm} (h : LenN a b) : checkN a = checkN b := by
 have hs : lenN a = lenN b := by
  unfold lenN
  unfold LenN at h
  have e : ∀ n : Nm, n.map (fun l => 1 + l.length) = (n.map List.length).map (fun k => 1 + k) := fun n => by rw [List.map_map]; rfl
  rw [e a, e b, h]
 have he : ∀ l m : Lab, l.length = m.length → errL l = errL m := fun l m h => by
  unfold errL
  rw [h]
  cases l with
  | nil =>
   cases m with
   | nil => rfl
   | cons _ _ => cases h
  | cons _ _ =>
   cases m with
   | nil => cases h
   | cons _ _ => simp
 unfold checkN
 rw [hs]
 unfold LenN at h
 have : ∀ {a b : Nm}, a.map List.length = b.map List.length → (match a.find? (fun l => decide (errL l ≠ 0)) with
  | some l => errL l
  | Option.none => if 255 < lenN b then (3 : Int) else 0) = (match b.find? (fun l => decide (errL l ≠ 0)) with
  | some l => errL l
  | Option.none => if 255 < lenN b then (3 : Int) else 0) := by
  intro a b
  generalize (if 255 < lenN b then (3 : Int) else 0) = z
  clear h hs
  intro h
  induction a generalizing b with
  | nil =>
   cases b with
   | nil => rfl
   | cons _ _ => cases h
  | cons x a ih =>
   cases b with
   | nil => cases h
   | cons y b =>
    simp only [List.map_cons, List.cons.injEq] at h
    have hxy := he x y h.1
    have h2 := ih h.2
    simp only [List.find?_cons, hxy]
    by_cases hy : errL y = 0
    ·simp only [hy, ne_eq, not_true_eq_false, decide_false]
     exact h2
    ·simp only [ne_eq, hy, not_false_eq_true, decide_true]
     exact hxy
 exact this h
theorem swap_fold {t : Nm} : swapN (foldN q) (foldN n) t = foldN (q.take (q.length - n.length)) ++ t := by
 unfold swapN
 rw [foldN_len, foldN_len]
 congr 1
 unfold foldN
 rw [List.map_take]
theorem swap_fold_two {t : Nm} : foldN (swapN (foldN q) (foldN n) t) = foldN (swapN q n t) := by
 rw [swap_fold]
 unfold swapN
 unfold foldN
 rw [List.map_append, List.map_append]
 congr 1
 exact foldN_two _
theorem swap_fold_check {t : Nm} : checkN (swapN (foldN q) (foldN n) t) = checkN (swapN q n t) := by
 refine checkN_len_eq ?_
 rw [swap_fold]
 unfold swapN LenN
 rw [List.map_append, List.map_append]
 congr 1
 unfold foldN
 rw [List.map_map]
 exact List.map_congr_left fun l _ => foldL_length l
theorem renamed_fold : (renamedL R q n = Option.none ∧ renamedL R (foldN q) (foldN n) = Option.none) ∨ ∃ a b, renamedL R q n = some a ∧ renamedL R (foldN q) (foldN n) = some b ∧ Alk a b := by
 unfold renamedL
 rw [datC_fold, swap_fold_check]
 by_cases h : datC R n 39 = []
 ·rw [if_pos h, if_pos h]
  exact .inl ⟨rfl, rfl⟩
 rw [if_neg h, if_neg h]
 right
 by_cases hc : checkN (swapN q n (toN 39 ((datC R n 39).take 1))) = 0
 ·rw [if_pos hc, if_pos hc]
  exact ⟨_, _, rfl, rfl, _, rfl, swap_fold_two⟩
 ·rw [if_neg hc, if_neg hc]
  exact ⟨_, _, rfl, rfl, Alk.self _⟩
theorem go_fold : ∀ l : List Nm, (goL o R q l = Option.none ∧ goL o R (foldN q) (l.map foldN) = Option.none) ∨ ∃ a b, goL o R q l = some a ∧ goL o R (foldN q) (l.map foldN) = some b ∧ Alk a b
 | [] => .inl ⟨rfl, rfl⟩
 | n :: l => by
  simp only [List.map_cons, goL]
  rw [cutP_fold, foldN_len, foldN_len]
  by_cases hc : cutP o R n = true
  ·rw [if_pos hc, if_pos hc]
   exact .inr ⟨_, _, rfl, rfl, refer_fold⟩
  rw [if_neg hc, if_neg hc]
  by_cases hl : n.length = q.length
  ·rw [if_pos hl, if_pos hl]
   exact .inl ⟨rfl, rfl⟩
  rw [if_neg hl, if_neg hl]
  rcases renamed_fold (R := R) (q := q) (n := n) with ⟨h1, h2⟩ | ⟨a, b, h1, h2, h3⟩
  ·rw [h1, h2]
   exact go_fold l
  ·rw [h1, h2]
   exact .inr ⟨_, _, rfl, rfl, h3⟩
theorem look_fold : Alk (lookL o R q t) (lookL o R (foldN q) t) := by
 unfold lookL
 rw [under_fold_l]
 by_cases hu : under q o = false
 ·rw [if_pos hu, if_pos hu]
  exact Alk.self _
 rw [if_neg hu, if_neg hu, downs_fold]
 rcases go_fold (o := o) (R := R) (q := q) (downs o q) with ⟨h1, h2⟩ | ⟨a, b, h1, h2, h3⟩
 ·rw [h1, h2]
  show Alk (if existsL o R q = true then _ else _) (if existsL o R (foldN q) = true then _ else _)
  rw [existsL_fold]
  by_cases he : existsL o R q = true
  ·rw [if_pos he, if_pos he, at_fold]
   exact Alk.self _
  ·rw [if_neg he, if_neg he, source_fold]
   cases sourceL o R q with
   | none => exact Alk.self _
   | some s =>
    show Alk (atL R s t true) (atL R (foldN s) t true)
    rw [at_fold]
    exact Alk.self _
 ·rw [h1, h2]
  exact h3
end

/-! types -/
section
variable {R : List RecL} {o q n : Nm} {t u : Int}
end

/-! cuts -/
section
variable {R : List RecL} {o q : Nm} {t u : Int}
end
end Go.Proofs.YtopbbjdembnfdaaGreat
