/-
  Texts of a proof, joined: G1, G2, G3, G4, G5, Y3, M6ed, M6eg, F0, F1.
  Conditions: none.
-/
import Derived.Test.YtopbbjdembnfdaaGreatJT08
import Derived.Test.YtopbbjdembnfdaaGreatJT01
import Derived.Test.YtopbbjdembnfdaaGreatJT06
import Derived.Test.YtopbbjdembnfdaaGreatJT02
import Derived.Test.YtopbbjdembnfdaaGreatJT05
set_option linter.unusedVariables false
set_option linter.unusedSimpArgs false
set_option linter.defProp false
set_option linter.unnecessarySimpa false
namespace Go.Proofs.YtopbbjdembnfdaaGreat
open Go
set_option maxRecDepth 10000

theorem bi_undef (b : Bool) : boolIs undef b = false := nr rfl
structure DatF (d : DatL) : Prop where
 names : ∀ n ∈ d.names, (∀ l ∈ n, l.length ≤ 1000000000) ∧ n.length ≤ 1000000000
 nn : d.names.length ≤ 1000000000
 nu : d.nums.length ≤ 1000000000
 nt : d.texts.length ≤ 1000000000
 tl : ∀ l ∈ d.texts, l.length ≤ 1000000000
 nr : d.raw.length ≤ 1000000000
def leadT (t : Int) : Prop := t = 2 ∨ t = 5 ∨ t = 39

set_option maxHeartbeats 2000000 in
theorem RCheckData_ok {w0 w : World} (hE0 : Ext w0 w) {cs : List Value} {d : DatL} (hd : DatAt w0 cs d) (hf : DatF d) :
  Fn Tryz.prog 173 #[.agg cs.toArray] w (fun v w' => Ext w w' ∧ ∃ e : Int, v = vi e ∧ (e = 0 → (∀ n ∈ d.names, checkN n = 0) ∧ (leadT d.ty → d.names.length = 1))) := by
 obtain ⟨nm, nu, tx, rw', rfl, ⟨vals, ⟨an, cn, rfl, hcn, hgn⟩, hvl, hvr⟩, ⟨au, cu, rfl, hcu, hgu⟩, ⟨at1, ct, rfl, hct, hgt⟩, ⟨ar, cr, rfl, hcr, hgr⟩⟩ := hd.ex
 simp only [List.length_map] at hcu hgu hct hgt hcr hgr
 simp only [List.length_map]
 obtain ⟨L, hL⟩ : ∃ L : List Value, [vi d.ty, .slice an vals.length cn, .slice au d.nums.length cu, .slice at1 d.texts.length ct, .slice ar d.raw.length cr] = L := ⟨_, rfl⟩
 refine enter Tryz.func173 Tryz.ntmps173 rfl rfl ?_
 repeat refine c_r ?_
 refine rg0 ?_
 repeat refine c_r ?_
 refine W_alloc1 ?_
 intro w1 hE1 hs1 hA
 have p0 : cellO w1 (some ⟨w.heap.size, 0, Option.none⟩) = some (vi d.ty) := cellO_at hA rfl
 have p1 : cellO w1 (some ⟨w.heap.size, 1, Option.none⟩) = some (.slice an vals.length cn) := cellO_at hA rfl
 have p2 : cellO w1 (some ⟨w.heap.size, 2, Option.none⟩) = some (.slice au d.nums.length cu) := cellO_at hA rfl
 have p3 : cellO w1 (some ⟨w.heap.size, 3, Option.none⟩) = some (.slice at1 d.texts.length ct) := cellO_at hA rfl
 have p4 : cellO w1 (some ⟨w.heap.size, 4, Option.none⟩) = some (.slice ar d.raw.length cr) := cellO_at hA rfl
 have nn := hf.nn
 have nu := hf.nu
 have nt := hf.nt
 have nr := hf.nr
 have rd : ∀ {x}, Ext w1 x → cellO x (some ⟨w.heap.size, 1, Option.none⟩) = some (.slice an vals.length cn) ∧ cellO x (some ⟨w.heap.size, 3, Option.none⟩) = some (.slice at1 d.texts.length ct) ∧ cellO x (some ⟨w.heap.size, 0, Option.none⟩) = some (vi d.ty) ∧ cellO x (some ⟨w.heap.size, 2, Option.none⟩) = some (.slice au d.nums.length cu) ∧ cellO x (some ⟨w.heap.size, 4, Option.none⟩) = some (.slice ar d.raw.length cr) :=
  fun hx => ⟨cellO_ext hx p1, cellO_ext hx p3, cellO_ext hx p0, cellO_ext hx p2, cellO_ext hx p4⟩
 refine W_mono (Q := fun e σ' ds' v' => e = .normal ∧ ds' = [] ∧ σ' 1 = .pointer (some ⟨w.heap.size, 0, Option.none⟩) ∧ v' = w1 ∧ ∃ bb, σ' 17 = .bool bb) ?_ ?_
 ·by_cases h1 : d.ty < 1
  ·refine rq ?_; intro gd K hgd hK
   have hg3 : ∀ n σ b, wantV gd n σ (some (3, b)) = boolIs (ev n σ (.tmp 13)) b := (fun n σ b => by rw [wantV_some, show gd 3 = some 13 from (by rw [hgd]; rfl)]; rfl)
   try simp (disch := first | omega | assumption | rfl) only [↓reduceIte, go_sem, Nat.reduceLT, Nat.reduceEqDiff, Nat.reduceSub, p0, Nat.add_zero, decide_eq_true h1, ↓hg3]
   refine hK _ _ ?_; clear hK hgd; clear K; try clear gd
   exact ⟨rfl, rfl, vq0, rfl, _, vr0⟩
  ·refine rq ?_; intro gd K hgd hK
   have hg3 : ∀ n σ b, wantV gd n σ (some (3, b)) = boolIs (ev n σ (.tmp 13)) b := (fun n σ b => by rw [wantV_some, show gd 3 = some 13 from (by rw [hgd]; rfl)]; rfl)
   try simp (disch := first | omega | assumption | rfl) only [↓reduceIte, go_sem, Nat.reduceLT, Nat.reduceEqDiff, Nat.reduceSub, p0, Nat.add_zero, decide_eq_false h1, ↓hg3]
   refine hK _ _ ?_; clear hK hgd; clear K; try clear gd
   exact ⟨rfl, rfl, vq0, rfl, _, vr0⟩
 rintro _ σ1 _ v1 ⟨rfl, rfl, h1, hv1, bb, h17⟩
 rw [hv1]
 clear hv1 v1
 repeat refine c_r ?_
 refine W_cond (t := bb) ((vq1 h17)) ?_ ?_
 ·intro _
  repeat (first | refine c_r ?_ | refine rg0 ?_)
  refine rt0 Tryz.ntmps173 ?_
  exact ⟨hE1, 6, rfl, fun h => by cases h⟩
 intro _
 repeat refine c_r ?_
 refine rq ?_; intro gd K hgd hK
 try simp (disch := first | omega | assumption | rfl) only [↓reduceIte, go_sem, Nat.reduceLT, Nat.reduceEqDiff, Nat.reduceSub, h1, p0, Nat.add_zero]
 refine Fn.mono (Counts_ok w1 d.ty) ?_
 rintro _ w2 ⟨hw2, a, b, c, rfl, hca, hcb⟩
 rw [hw2]
 clear hw2 w2
 try simp (disch := first | omega | assumption | rfl) only [↓reduceIte, go_sem, Nat.reduceLT, Nat.reduceEqDiff, Nat.reduceSub]
 refine hK _ _ ?_; clear hK hgd; clear K; try clear gd
 repeat refine c_r ?_
 refine rg3 h1 p3 Nat.zero_add ?_
 repeat refine c_r ?_
 refine rg3 h1 p0 Nat.add_zero ?_
 repeat refine c_r ?_
 refine W_mono (Q := fun e σ' ds' v' => e = .normal ∧ ds' = [] ∧ σ' 1 = .pointer (some ⟨w.heap.size, 0, Option.none⟩) ∧ σ' 3 = vi a ∧ σ' 4 = vi b ∧ σ' 5 = vi c ∧ v' = w1 ∧ ∃ bb, σ' 6 = .bool bb) ?_ ?_
 ·refine wc0 ?_ ?_
  ·intro h16
   repeat refine c_r ?_
   by_cases h2 : (d.texts.length : Int) ≥ 1
   ·refine rq ?_; intro gd K hgd hK
    have hg4 : ∀ n σ b, wantV gd n σ (some (4, b)) = boolIs (ev n σ (.tmp 36)) b := (fun n σ b => by rw [wantV_some, show gd 4 = some 36 from (by rw [hgd]; rfl)]; rfl)
    try simp (disch := first | omega | assumption | rfl) only [↓reduceIte, go_sem, Nat.reduceLT, Nat.reduceEqDiff, Nat.reduceSub, h1, p3, Nat.zero_add, decide_eq_true h2, ↓hg4]
    refine hK _ _ ?_; clear hK hgd; clear K; try clear gd
    exact ⟨rfl, rfl, (vq1 h1), vq0, vq0, vq0, rfl, _, vr0⟩
   ·refine rq ?_; intro gd K hgd hK
    have hg4 : ∀ n σ b, wantV gd n σ (some (4, b)) = boolIs (ev n σ (.tmp 36)) b := (fun n σ b => by rw [wantV_some, show gd 4 = some 36 from (by rw [hgd]; rfl)]; rfl)
    try simp (disch := first | omega | assumption | rfl) only [↓reduceIte, go_sem, Nat.reduceLT, Nat.reduceEqDiff, Nat.reduceSub, h1, p3, Nat.zero_add, decide_eq_false h2, ↓hg4]
    refine hK _ _ ?_; clear hK hgd; clear K; try clear gd
    exact ⟨rfl, rfl, (vq1 h1), vq0, vq0, vq0, rfl, _, vr0⟩
  ·intro h16
   repeat refine c_r ?_
   exact ⟨rfl, rfl, (vq1 h1), vq0, vq0, vq0, rfl, _, vr0⟩
 clear h1
 rintro _ σ2 _ v1 ⟨rfl, rfl, h1, h3, h4, h5, hv1, b6, h6⟩
 rw [hv1]
 clear hv1 v1
 repeat refine c_r ?_
 refine W_mono (Q := fun e σ' ds' v' => e = .normal ∧ ds' = [] ∧ σ' 1 = .pointer (some ⟨w.heap.size, 0, Option.none⟩) ∧ v' = w1 ∧ ∃ bb, σ' 68 = .bool bb ∧ (bb = false → (vals.length : Int) = a ∧ (d.nums.length : Int) = b)) ?_ ?_
 ·by_cases hA : (vals.length : Int) = a
  rotate_left
  ·refine rq ?_; intro gd K hgd hK
   have hg5 : ∀ n σ b, wantV gd n σ (some (5, b)) = boolIs (ev n σ (.tmp 47)) b := (fun n σ b => by rw [wantV_some, show gd 5 = some 47 from (by rw [hgd]; rfl)]; rfl); have hg12 : ∀ n σ b, wantV gd n σ (some (12, b)) = boolIs (ev n σ (.tmp 54)) b := (fun n σ b => by rw [wantV_some, show gd 12 = some 54 from (by rw [hgd]; rfl)]; rfl); have hg15 : ∀ n σ b, wantV gd n σ (some (15, b)) = boolIs (ev n σ (.tmp 57)) b := (fun n σ b => by rw [wantV_some, show gd 15 = some 57 from (by rw [hgd]; rfl)]; rfl); have hg23 : ∀ n σ b, wantV gd n σ (some (23, b)) = boolIs (ev n σ (.tmp 65)) b := (fun n σ b => by rw [wantV_some, show gd 23 = some 65 from (by rw [hgd]; rfl)]; rfl)
   try simp (disch := first | omega | assumption | rfl) only [↓reduceIte, go_sem, Nat.reduceLT, Nat.reduceEqDiff, Nat.reduceSub, h1, h3, h4, h5, h6, p1, p2, p4, Nat.zero_add, decide_eq_false hA, Bool.not_true, Bool.not_false, bi_undef, ↓hg5, ↓hg12, ↓hg15, ↓hg23]
   refine hK _ _ ?_; clear hK hgd; clear K; try clear gd
   exact ⟨rfl, rfl, (vq1 h1), rfl, _, vr0, fun h => by cases h⟩
  by_cases hB : (d.nums.length : Int) = b
  rotate_left
  ·refine rq ?_; intro gd K hgd hK
   have hg5 : ∀ n σ b, wantV gd n σ (some (5, b)) = boolIs (ev n σ (.tmp 47)) b := (fun n σ b => by rw [wantV_some, show gd 5 = some 47 from (by rw [hgd]; rfl)]; rfl); have hg12 : ∀ n σ b, wantV gd n σ (some (12, b)) = boolIs (ev n σ (.tmp 54)) b := (fun n σ b => by rw [wantV_some, show gd 12 = some 54 from (by rw [hgd]; rfl)]; rfl); have hg15 : ∀ n σ b, wantV gd n σ (some (15, b)) = boolIs (ev n σ (.tmp 57)) b := (fun n σ b => by rw [wantV_some, show gd 15 = some 57 from (by rw [hgd]; rfl)]; rfl); have hg23 : ∀ n σ b, wantV gd n σ (some (23, b)) = boolIs (ev n σ (.tmp 65)) b := (fun n σ b => by rw [wantV_some, show gd 23 = some 65 from (by rw [hgd]; rfl)]; rfl)
   try simp (disch := first | omega | assumption | rfl) only [↓reduceIte, go_sem, Nat.reduceLT, Nat.reduceEqDiff, Nat.reduceSub, h1, h3, h4, h5, h6, p1, p2, p4, Nat.zero_add, decide_eq_true hA, decide_eq_false hB, Bool.not_true, Bool.not_false, bi_undef, ↓hg5, ↓hg12, ↓hg15, ↓hg23]
   refine hK _ _ ?_; clear hK hgd; clear K; try clear gd
   exact ⟨rfl, rfl, (vq1 h1), rfl, _, vr0, fun h => by cases h⟩
  by_cases hC : c ≥ 0
  ·by_cases hD : (d.raw.length : Int) = c
   ·refine rq ?_; intro gd K hgd hK
    have hg5 : ∀ n σ b, wantV gd n σ (some (5, b)) = boolIs (ev n σ (.tmp 47)) b := (fun n σ b => by rw [wantV_some, show gd 5 = some 47 from (by rw [hgd]; rfl)]; rfl); have hg12 : ∀ n σ b, wantV gd n σ (some (12, b)) = boolIs (ev n σ (.tmp 54)) b := (fun n σ b => by rw [wantV_some, show gd 12 = some 54 from (by rw [hgd]; rfl)]; rfl); have hg15 : ∀ n σ b, wantV gd n σ (some (15, b)) = boolIs (ev n σ (.tmp 57)) b := (fun n σ b => by rw [wantV_some, show gd 15 = some 57 from (by rw [hgd]; rfl)]; rfl); have hg23 : ∀ n σ b, wantV gd n σ (some (23, b)) = boolIs (ev n σ (.tmp 65)) b := (fun n σ b => by rw [wantV_some, show gd 23 = some 65 from (by rw [hgd]; rfl)]; rfl)
    try simp (disch := first | omega | assumption | rfl) only [↓reduceIte, go_sem, Nat.reduceLT, Nat.reduceEqDiff, Nat.reduceSub, h1, h3, h4, h5, h6, p1, p2, p4, Nat.zero_add, decide_eq_true hA, decide_eq_true hB, decide_eq_true hC, decide_eq_true hD, Bool.not_true, Bool.not_false, bi_undef, ↓hg5, ↓hg12, ↓hg15, ↓hg23]
    refine hK _ _ ?_; clear hK hgd; clear K; try clear gd
    exact ⟨rfl, rfl, (vq1 h1), rfl, _, vr0, fun _ => ⟨hA, hB⟩⟩
   ·refine rq ?_; intro gd K hgd hK
    have hg5 : ∀ n σ b, wantV gd n σ (some (5, b)) = boolIs (ev n σ (.tmp 47)) b := (fun n σ b => by rw [wantV_some, show gd 5 = some 47 from (by rw [hgd]; rfl)]; rfl); have hg12 : ∀ n σ b, wantV gd n σ (some (12, b)) = boolIs (ev n σ (.tmp 54)) b := (fun n σ b => by rw [wantV_some, show gd 12 = some 54 from (by rw [hgd]; rfl)]; rfl); have hg15 : ∀ n σ b, wantV gd n σ (some (15, b)) = boolIs (ev n σ (.tmp 57)) b := (fun n σ b => by rw [wantV_some, show gd 15 = some 57 from (by rw [hgd]; rfl)]; rfl); have hg23 : ∀ n σ b, wantV gd n σ (some (23, b)) = boolIs (ev n σ (.tmp 65)) b := (fun n σ b => by rw [wantV_some, show gd 23 = some 65 from (by rw [hgd]; rfl)]; rfl)
    try simp (disch := first | omega | assumption | rfl) only [↓reduceIte, go_sem, Nat.reduceLT, Nat.reduceEqDiff, Nat.reduceSub, h1, h3, h4, h5, h6, p1, p2, p4, Nat.zero_add, decide_eq_true hA, decide_eq_true hB, decide_eq_true hC, decide_eq_false hD, Bool.not_true, Bool.not_false, bi_undef, ↓hg5, ↓hg12, ↓hg15, ↓hg23]
    refine hK _ _ ?_; clear hK hgd; clear K; try clear gd
    exact ⟨rfl, rfl, (vq1 h1), rfl, _, vr0, fun h => by cases h⟩
  ·refine rq ?_; intro gd K hgd hK
   have hg5 : ∀ n σ b, wantV gd n σ (some (5, b)) = boolIs (ev n σ (.tmp 47)) b := (fun n σ b => by rw [wantV_some, show gd 5 = some 47 from (by rw [hgd]; rfl)]; rfl); have hg12 : ∀ n σ b, wantV gd n σ (some (12, b)) = boolIs (ev n σ (.tmp 54)) b := (fun n σ b => by rw [wantV_some, show gd 12 = some 54 from (by rw [hgd]; rfl)]; rfl); have hg15 : ∀ n σ b, wantV gd n σ (some (15, b)) = boolIs (ev n σ (.tmp 57)) b := (fun n σ b => by rw [wantV_some, show gd 15 = some 57 from (by rw [hgd]; rfl)]; rfl); have hg23 : ∀ n σ b, wantV gd n σ (some (23, b)) = boolIs (ev n σ (.tmp 65)) b := (fun n σ b => by rw [wantV_some, show gd 23 = some 65 from (by rw [hgd]; rfl)]; rfl)
   try simp (disch := first | omega | assumption | rfl) only [↓reduceIte, go_sem, Nat.reduceLT, Nat.reduceEqDiff, Nat.reduceSub, h1, h3, h4, h5, h6, p1, p2, p4, Nat.zero_add, decide_eq_true hA, decide_eq_true hB, decide_eq_false hC, Bool.not_true, Bool.not_false, bi_undef, ↓hg5, ↓hg12, ↓hg15, ↓hg23]
   refine hK _ _ ?_; clear hK hgd; clear K; try clear gd
   exact ⟨rfl, rfl, (vq1 h1), rfl, _, vr0, fun _ => ⟨hA, hB⟩⟩
 clear h1 h3 h4 h5 h6
 rintro _ σ3 _ v1 ⟨rfl, rfl, h1, hv1, b7, h68, hb7⟩
 rw [hv1]
 clear hv1 v1
 repeat refine c_r ?_
 refine W_cond (t := b7) ((vq1 h68)) ?_ ?_
 ·intro _
  repeat (first | refine c_r ?_ | refine rg0 ?_)
  refine rt0 Tryz.ntmps173 ?_
  exact ⟨hE1, 2, rfl, fun h => by cases h⟩
 intro hb
 obtain ⟨hA, hB⟩ := hb7 hb
 have hlead : leadT d.ty → d.names.length = 1 := fun h => by have := hca h; omega
 repeat refine c_r ?_
 refine rg0 ?_
 repeat refine c_r ?_
 refine W_mono (Q := fun e σ' ds' v' => ds' = [] ∧ Ext w1 v' ∧ ((e = .exit 0 ∧ σ' 1 = .pointer (some ⟨w.heap.size, 0, Option.none⟩) ∧ ∀ n ∈ d.names, checkN n = 0) ∨ (e = .ret ∧ ∃ e2 : Int, e2 ≠ 0 ∧ σ' 2 = vi e2))) ?_ ?_
 ·refine W_loop (fun m σ ds A => ds = [] ∧ ∃ (i : Nat), i + m = vals.length ∧ σ 7 = vi i ∧ σ 1 = .pointer (some ⟨w.heap.size, 0, Option.none⟩) ∧ Ext w1 A ∧ ∀ j (h : j < d.names.length), j < i → checkN d.names[j] = 0) vals.length ?_ ?_
  ·exact ⟨rfl, 0, by omega, vr0, (vq1 h1), Keep.refl _ _, fun j h hj => absurd hj (by omega)⟩
  clear h1
  rintro m σ ds A ⟨rfl, i, him, h7, h1, hEA, hlow⟩
  obtain ⟨q1, q3, q0, q2, q4⟩ := rd hEA
  repeat refine c_r ?_
  refine rg4 h7 h1 q1 Nat.zero_add ?_
  repeat refine c_r ?_
  refine wc0 ?_ ?_
  ·intro hlt
   simp only [decide_eq_true_eq] at hlt
   have hi : i < vals.length := by omega
   have hi0 : (0 : Int) ≤ (i : Int) := by omega
   have hi1 : (i : Int) < (vals.length : Int) := by omega
   have hi1' : (i : Int) + 1 = ((i + 1 : Nat) : Int) := by push_cast; rfl
   have hgi := hgn i hi
   obtain ⟨xN, rfl⟩ := Option.isSome_iff_exists.1 (some_of_cellO hgi)
   have hgi' := cellO_ext (hE0.trans (hE1.trans hEA)) hgi
   have hrow := hvr i hi (by omega)
   obtain ⟨n, hn⟩ : ∃ n, d.names[i]'(by omega) = n := ⟨_, rfl⟩
   rw [hn] at hrow
   have hnf := hf.names n (hn ▸ List.getElem_mem _)
   obtain ⟨hv, hhv⟩ : ∃ hv, vals[i] = hv := ⟨_, rfl⟩
   rw [hhv] at hgi' hrow
   repeat refine c_r ?_
   refine rq ?_; intro gd K hgd hK
   try simp (disch := first | omega | assumption | rfl) only [↓reduceIte, go_sem, Nat.reduceLT, Nat.reduceEqDiff, Nat.reduceSub, h7, h1, q1, Nat.zero_add, hi0, hi1, hgi']
   refine Fn.mono (RCheckName_ok A hv n (hrow.ext (hE0.trans (hE1.trans hEA))) hnf.1 hnf.2) ?_
   rintro _ A2 ⟨rfl, hA2⟩
   try simp (disch := first | omega | assumption | rfl) only [↓reduceIte, go_sem, Nat.reduceLT, Nat.reduceEqDiff, Nat.reduceSub]
   refine hK _ _ ?_; clear hK hgd; clear K; try clear gd
   repeat refine c_r ?_
   refine rg0 ?_
   repeat refine c_r ?_
   by_cases h0 : checkN n = 0
   ·rw [h0]
    refine W_cond (t := false) (vr0) (fun h => by cases h) ?_
    intro _
    repeat refine c_r ?_
    refine rg2 h7 hi1' ?_
    repeat refine c_r ?_
    refine ⟨m - 1, by omega, rfl, i + 1, by omega, vq0, (vq1 h1), hEA.trans hA2, fun j hj hji => ?_⟩
    by_cases hj2 : j = i
    ·subst hj2; rw [hn]; exact h0
    ·exact hlow j hj (by omega)
   ·refine W_cond (t := !decide (checkN n = 0)) (vr0) ?_ (fun h => by rw [decide_eq_false h0] at h; cases h)
    intro _
    repeat refine c_r ?_
    refine rg0 ?_
    repeat refine c_r ?_
    exact ⟨rfl, hEA.trans hA2, .inr ⟨rfl, checkN n, h0, vq0⟩⟩
  ·intro hge
   simp only [decide_eq_false_iff_not] at hge
   repeat refine c_r ?_
   refine ⟨rfl, hEA, .inl ⟨rfl, (vq1 h1), fun n hn => ?_⟩⟩
   obtain ⟨j, hj, rfl⟩ := List.getElem_of_mem hn
   exact hlow j hj (by omega)
 clear h1
 rintro e σ4 _ A ⟨rfl, hEA, ⟨rfl, h1, hall⟩ | ⟨rfl, e2, he2, h2⟩⟩
 rotate_left
 ·repeat refine c_r ?_
  refine rt1 h2 Tryz.ntmps173 ?_
  exact ⟨hE1.trans hEA, e2, rfl, fun h => absurd h he2⟩
 have fin : ∀ e : Int, e = 0 → (∀ n ∈ d.names, checkN n = 0) ∧ (leadT d.ty → d.names.length = 1) := fun e _ => ⟨hall, hlead⟩
 obtain ⟨q1, q3, q0, q2, q4⟩ := rd hEA
 repeat refine c_r ?_
 have hvl0 : (d.names.length : Int) = a := by omega
 refine W_mono (Q := fun e σ' ds' v' => e = .normal ∧ ds' = [] ∧ σ' 1 = .pointer (some ⟨w.heap.size, 0, Option.none⟩) ∧ v' = A ∧ ∃ bb, σ' 94 = .bool bb) ?_ ?_
 ·by_cases h15 : d.ty = 15
  ·have hb1 := hcb h15
   have hnu1 : (0 : Int) < (d.nums.length : Int) := by omega
   have hz0 : (0 : Int) ≤ 0 := by omega
   have hg0 := hgu 0 (by omega)
   obtain ⟨xU, rfl⟩ := Option.isSome_iff_exists.1 (some_of_cellO hg0)
   rw [adr_zero] at hg0
   have hg0' := cellO_ext (hE0.trans (hE1.trans hEA)) hg0
   rw [List.getElem_map] at hg0'
   refine rq ?_; intro gd K hgd hK
   have hg3 : ∀ n σ b, wantV gd n σ (some (3, b)) = boolIs (ev n σ (.tmp 88)) b := (fun n σ b => by rw [wantV_some, show gd 3 = some 88 from (by rw [hgd]; rfl)]; rfl)
   try simp (disch := first | omega | assumption | rfl) only [↓reduceIte, go_sem, Nat.reduceLT, Nat.reduceEqDiff, Nat.reduceSub, h1, q0, q2, Nat.add_zero, Nat.zero_add, decide_eq_true h15, hnu1, hz0, hg0', Nat.zero_mul, adr_zero, Int.toNat_zero, ↓hg3]
   refine hK _ _ ?_; clear hK hgd; clear K; try clear gd
   exact ⟨rfl, rfl, (vq1 h1), rfl, _, vr0⟩
  ·refine rq ?_; intro gd K hgd hK
   have hg3 : ∀ n σ b, wantV gd n σ (some (3, b)) = boolIs (ev n σ (.tmp 88)) b := (fun n σ b => by rw [wantV_some, show gd 3 = some 88 from (by rw [hgd]; rfl)]; rfl)
   try simp (disch := first | omega | assumption | rfl) only [↓reduceIte, go_sem, Nat.reduceLT, Nat.reduceEqDiff, Nat.reduceSub, h1, q0, Nat.add_zero, decide_eq_false h15, ↓hg3]
   refine hK _ _ ?_; clear hK hgd; clear K; try clear gd
   exact ⟨rfl, rfl, (vq1 h1), rfl, _, vr0⟩
 clear h1
 rintro _ σ5 _ v1 ⟨rfl, rfl, h1, hv1, b94, h94⟩
 rw [hv1]
 clear hv1 v1
 repeat refine c_r ?_
 refine W_cond (t := b94) ((vq1 h94)) ?_ ?_
 ·intro _
  repeat (first | refine c_r ?_ | refine rg0 ?_)
  refine rt0 Tryz.ntmps173 ?_
  exact ⟨hE1.trans hEA, 7, rfl, fun h => by cases h⟩
 intro _
 repeat refine c_r ?_
 refine rg0 ?_
 repeat refine c_r ?_
 refine W_mono (Q := fun e σ' ds' v' => ds' = [] ∧ v' = A ∧ ((e = .exit 2 ∧ σ' 1 = .pointer (some ⟨w.heap.size, 0, Option.none⟩)) ∨ (e = .ret ∧ σ' 2 = vi 3))) ?_ ?_
 ·refine W_loop (fun m σ ds B => ds = [] ∧ ∃ (i : Nat), i + m = d.texts.length ∧ σ 9 = vi i ∧ σ 1 = .pointer (some ⟨w.heap.size, 0, Option.none⟩) ∧ B = A) d.texts.length ?_ ?_
  ·exact ⟨rfl, 0, by omega, vr0, (vq1 h1), rfl⟩
  clear h1
  rintro m σ ds B ⟨rfl, i, him, h9, h1, hB2⟩
  rw [hB2]
  clear hB2 B
  repeat refine c_r ?_
  refine rg4 h9 h1 q3 Nat.zero_add ?_
  repeat refine c_r ?_
  refine wc0 ?_ ?_
  ·intro hlt
   simp only [decide_eq_true_eq] at hlt
   have hi : i < d.texts.length := by omega
   have hi0 : (0 : Int) ≤ (i : Int) := by omega
   have hi1 : (i : Int) < (d.texts.length : Int) := by omega
   have hi1' : (i : Int) + 1 = ((i + 1 : Nat) : Int) := by push_cast; rfl
   have hgi := hgt i hi
   obtain ⟨xT, rfl⟩ := Option.isSome_iff_exists.1 (some_of_cellO hgi)
   have hgi' := cellO_ext (hE0.trans (hE1.trans hEA)) hgi
   rw [List.getElem_map] at hgi'
   have htl := hf.tl _ (List.getElem_mem hi)
   repeat refine c_r ?_
   refine rg7 h9 h1 q3 Nat.zero_add hi0 hi1 hgi' ?_
   repeat refine c_r ?_
   refine wc0 ?_ ?_
   ·intro hgt2
    repeat refine c_r ?_
    refine rg0 ?_
    repeat refine c_r ?_
    exact ⟨rfl, rfl, .inr ⟨rfl, vq0⟩⟩
   ·intro hgt2
    repeat refine c_r ?_
    refine rg2 h9 hi1' ?_
    repeat refine c_r ?_
    exact ⟨m - 1, by omega, rfl, i + 1, by omega, vq0, (vq1 h1), rfl⟩
  ·intro hge
   repeat refine c_r ?_
   exact ⟨rfl, rfl, .inl ⟨rfl, (vq1 h1)⟩⟩
 clear h1
 rintro e σ6 _ v1 ⟨rfl, hv1, ⟨rfl, h1⟩ | ⟨rfl, h2⟩⟩
 rotate_left
 ·rw [hv1]
  repeat refine c_r ?_
  refine rt1 h2 Tryz.ntmps173 ?_
  exact ⟨hE1.trans hEA, 3, rfl, fun h => by cases h⟩
 rw [hv1]
 clear hv1 v1
 repeat refine c_r ?_
 refine rg3 h1 q4 Nat.zero_add ?_
 repeat refine c_r ?_
 refine wc0 ?_ ?_
 ·intro _
  repeat (first | refine c_r ?_ | refine rg0 ?_)
  refine rt0 Tryz.ntmps173 ?_
  exact ⟨hE1.trans hEA, 3, rfl, fun h => by cases h⟩
 intro _
 repeat (first | refine c_r ?_ | refine rg0 ?_)
 refine rt0 Tryz.ntmps173 ?_
 exact ⟨hE1.trans hEA, 0, rfl, fin 0⟩
end Go.Proofs.YtopbbjdembnfdaaGreat

namespace Go.Proofs.YtopbbjdembnfdaaGreat
open Go
set_option maxRecDepth 10000

structure DatX (w0 : World) (B : Nat) (A : World) (nm : Value) (cs : List Value) (d : DatL) : Prop where
 ex : ∃ nu tx rw vals, cs = [vi d.ty, nm, nu, tx, rw] ∧ Row A nm vals ∧ vals.length = d.names.length ∧ (∀ i (h : i < vals.length) (h' : i < d.names.length), Row w0 vals[i] (d.names[i].map vs)) ∧ Row w0 nu (d.nums.map v32) ∧ Row w0 tx (d.texts.map vs) ∧ Row w0 rw (d.raw.map byteV)
 blk : BlkB B A nm
theorem DatX.at {w0 A : World} {B : Nat} {nm : Value} {cs : List Value} {d : DatL} (h : DatX w0 B A nm cs d) (hE : Ext w0 A) : DatAt A cs d := by
 obtain ⟨nu, tx, rw, vals, e, h1, h2, h3, h4, h5, h6⟩ := h.ex
 exact ⟨nm, nu, tx, rw, e, ⟨vals, h1, h2, fun i a b => (h3 i a b).ext hE⟩, h4.ext hE, h5.ext hE, h6.ext hE⟩
theorem DatX.keep {w0 A x : World} {B : Nat} {nm : Value} {cs : List Value} {d : DatL} (h : DatX w0 B A nm cs d) {S : Nat → Prop} (hk : Keep S A x) (hS : ∀ a n c, nm = .slice (some a) n c → ¬ S a.block) : DatX w0 B x nm cs d := by
 obtain ⟨nu, tx, rw, vals, e, h1, h2, h3, h4, h5, h6⟩ := h.ex
 exact ⟨⟨nu, tx, rw, vals, e, h1.blocks fun a n c hv => hk.block _ (h.blk a n c hv).2 (hS a n c hv), h2, h3, h4, h5, h6⟩, h.blk.ext hk.size⟩
theorem DatX.mono {w0 A : World} {B B' : Nat} {nm : Value} {cs : List Value} {d : DatL} (h : DatX w0 B A nm cs d) (hB : B' ≤ B) : DatX w0 B' A nm cs d := ⟨h.ex, h.blk.mono hB⟩

set_option maxHeartbeats 1000000 in
theorem DOf_ok {w0 w : World} (hE0 : Ext w0 w) {cs : List Value} {d : DatL} (hd : DatAt w0 cs d) (hnn : d.names.length ≤ 1000000000) :
  Fn Tryz.prog 78 #[.agg cs.toArray] w (fun v w' => Ext w w' ∧ ∃ cs' nm, v = .agg cs'.toArray ∧ DatX w0 w.heap.size w' nm cs' d) := by
 obtain ⟨nm, nu, tx, rw', rfl, ⟨vals, ⟨an, cn, rfl, hcn, hgn⟩, hvl, hvr⟩, hnu, htx, hrw⟩ := hd.ex
 obtain ⟨au, cu, rfl, _⟩ := id hnu
 obtain ⟨at1, ct, rfl, _⟩ := id htx
 obtain ⟨ar, cr, rfl, _⟩ := id hrw
 refine enter Tryz.func78 Tryz.ntmps78 rfl rfl ?_
 repeat refine c_r ?_
 refine rg0 ?_
 repeat refine c_r ?_
 rw [new_size]
 refine W_alloc2 ?_
 intro w1 hE1 hs1 hA hC
 have p0 : cellO w1 (some ⟨w.heap.size, 0, Option.none⟩) = some (vi d.ty) := cellO_at hA rfl
 have p1 : cellO w1 (some ⟨w.heap.size, 1, Option.none⟩) = some (.slice an vals.length cn) := cellO_at hA rfl
 have p2 : cellO w1 (some ⟨w.heap.size, 2, Option.none⟩) = some (.slice au (d.nums.map v32).length cu) := cellO_at hA rfl
 have p3 : cellO w1 (some ⟨w.heap.size, 3, Option.none⟩) = some (.slice at1 (d.texts.map vs).length ct) := cellO_at hA rfl
 have p4 : cellO w1 (some ⟨w.heap.size, 4, Option.none⟩) = some (.slice ar (d.raw.map byteV).length cr) := cellO_at hA rfl
 refine rq ?_; intro gd K hgd hK
 try simp (disch := first | omega | assumption | rfl) only [↓reduceIte, go_sem, Nat.reduceLT, Nat.reduceEqDiff, Nat.reduceSub, p0, p2, p3, p4, Nat.add_zero, Nat.zero_add]
 refine ⟨by kernel_rfl, ?_⟩
 rw [show bdV Tryz.prog 132 [(0, vi d.ty), (2, .slice au (d.nums.map v32).length cu), (3, .slice at1 (d.texts.map vs).length ct), (4, .slice ar (d.raw.map byteV).length cr)] = some (.agg #[vi d.ty, .slice Option.none 0 0, .slice au (d.nums.map v32).length cu, .slice at1 (d.texts.map vs).length ct, .slice ar (d.raw.map byteV).length cr]) from by kernel_rfl]
 try simp (disch := first | omega | assumption | rfl) only [↓reduceIte, go_sem, Nat.reduceLT, Nat.reduceEqDiff, Nat.reduceSub]
 have hB3 := new_block w1 (.cells #[vi 0, .slice Option.none 0 0, .slice Option.none 0 0, .slice Option.none 0 0, .slice Option.none 0 0] 132 (0, 0))
 have hE4 := Ext.alloc w1 (.cells #[vi 0, .slice Option.none 0 0, .slice Option.none 0 0, .slice Option.none 0 0, .slice Option.none 0 0] 132 (0, 0))
 have hs4 := new_size w1 (.cells #[vi 0, .slice Option.none 0 0, .slice Option.none 0 0, .slice Option.none 0 0, .slice Option.none 0 0] 132 (0, 0))
 revert hB3 hE4 hs4
 generalize w1.alloc (.cells #[vi 0, .slice Option.none 0 0, .slice Option.none 0 0, .slice Option.none 0 0, .slice Option.none 0 0] 132 (0, 0)) = w2
 intro hB3 hE4 hs4
 refine sv_all (P := Tryz.prog) (t := 132) (l := [vi d.ty, .slice Option.none 0 0, .slice au (d.nums.map v32).length cu, .slice at1 (d.texts.map vs).length ct, .slice ar (d.raw.map byteV).length cr]) hB3 rfl (fun v h => by simp at h; rcases h with rfl | rfl | rfl | rfl | rfl <;> rfl) rfl rfl ?_
 intro w3 hs5 hB5 hk5
 try simp (disch := first | omega | assumption | rfl) only [↓reduceIte, go_sem, Nat.reduceLT, Nat.reduceEqDiff, Nat.reduceSub]
 refine hK _ _ ?_; clear hK hgd; clear K; try clear gd
 have hE13 : Ext w1 w3 := Keep.to_ext hE4 rfl (fun b hb => by omega) hk5
 obtain ⟨b3, hb3⟩ : ∃ b3, w1.heap.size = b3 := ⟨_, rfl⟩
 rw [hb3] at hB5
 have hs3 : w3.heap.size = b3 + 1 := by omega
 repeat refine c_r ?_
 refine rg0 ?_
 repeat refine c_r ?_
 rw [hb3]
 refine W_loop (fun m σ ds A => ds = [] ∧ ∃ (i : Nat) (nv : Value), i + m = vals.length ∧ σ 4 = vi i ∧ σ 1 = .pointer (some ⟨w.heap.size, 0, Option.none⟩) ∧ σ 2 = .pointer (some ⟨w.heap.size + 1, 0, Option.none⟩) ∧ σ 3 = .pointer (some ⟨b3, 0, Option.none⟩) ∧ A.heap[b3]? = some (.cells [vi d.ty, nv, .slice au (d.nums.map v32).length cu, .slice at1 (d.texts.map vs).length ct, .slice ar (d.raw.map byteV).length cr].toArray 132 (0, 0)) ∧ Own w3.heap.size A 22 nv (vals.take i) ∧ Ext w1 A ∧ w3.heap.size ≤ A.heap.size) vals.length ?_ ?_
 ·exact ⟨rfl, 0, .slice Option.none 0 0, by omega, vr0, vq0, vq0, vq0, hB5, Own.nil _ _ _, hE13, Nat.le_refl _⟩
 rintro m σ ds A ⟨rfl, i, nv, him, h4, h1, h2, h3, hb, hown, hEA, hsA⟩
 have q1 := cellO_ext hEA p1
 have s1 := hE1.size
 repeat refine c_r ?_
 refine rg4 h4 h1 q1 Nat.zero_add ?_
 repeat refine c_r ?_
 refine wc0 ?_ ?_
 ·intro hlt
  simp only [decide_eq_true_eq] at hlt
  have hi : i < vals.length := by omega
  have hi0 : (0 : Int) ≤ (i : Int) := by omega
  have hi1 : (i : Int) < (vals.length : Int) := by omega
  have hi1' : (i : Int) + 1 = ((i + 1 : Nat) : Int) := by push_cast; rfl
  have hgi := hgn i hi
  obtain ⟨xN, rfl⟩ := Option.isSome_iff_exists.1 (some_of_cellO hgi)
  obtain ⟨xi, hxi⟩ : ∃ xi, adr (some xN) i = some xi := ⟨_, rfl⟩
  rw [hxi] at hgi
  have hgA := cellO_ext (hE0.trans (hE1.trans hEA)) hgi
  have hxb : xi.block < w3.heap.size := by
   have := cell_lt (show w0.cell? xi = some _ from hgi)
   have := (hE0.trans (hE1.trans hE13)).size
   omega
  have hrow := hvr i hi (by omega)
  obtain ⟨hv, hhv⟩ : ∃ hv, vals[i] = hv := ⟨_, rfl⟩
  rw [hhv] at hgA hrow
  obtain ⟨ha, hc, hve, _⟩ := id hrow
  have hone : one hv = true := by rw [hve]; rfl
  have htk : vals.take (i + 1) = vals.take i ++ [hv] := by rw [take_succ' hi, hhv]
  have hnv : cellO A (some ⟨b3, 1, Option.none⟩) = some nv := sv_get hb rfl
  have hvals : (vals.take i).length ≤ 1000000000 := by rw [List.length_take]; omega
  repeat refine c_r ?_
  refine W_drw (fun i => i == 10) [(0, true), (1, true), (2, true), (3, true), (4, true), (5, true), (6, true), (7, false), (8, false), (9, true), (10, false)] (above w3.heap.size) mixed (by kernel_rfl) ?_; intro gd K x hgd hx hxe hK; have hx0 := drewX hxe; clear hxe
  have hgx := cellO_ext hx0 hgA
  have hnx := cellO_ext hx0 hnv
  have q1x := cellO_ext hx0 q1
  have hxs := hx.size
  simp (disch := first | omega | assumption | rfl) only [↓reduceIte, go_sem, Nat.reduceLT, Nat.reduceEqDiff, Nat.reduceSub, h4, h1, h3, q1x, hgx, hnx, hi0, hi1, hxi, Nat.zero_add, Nat.mul_one]
  refine ⟨off_at (by omega), off_at (by omega), off_of hxb, ?_⟩
  refine bs_one (z := .slice Option.none 0 0) (v := hv) (by rfl) (by rfl) (by rfl) (by rfl) (by rw [hve]; rfl) ?_
  intro w5 hE5 hs5 ho5
  refine ⟨.inr hE5.keep, ?_⟩
  simp (disch := first | omega | assumption | rfl) only [↓reduceIte, go_sem, Nat.reduceLT, Nat.reduceEqDiff, Nat.reduceSub]
  have hx5 := hx0.trans hE5
  have hx5s := hx5.size
  refine op_app (hown.ext hx5) ho5.row rfl rfl rfl rfl rfl rfl (vr0) (vr0) (fun q hq => by rw [List.mem_singleton.1 hq]; exact hone) (by rw [List.length_singleton]; omega) (by decide) (by omega) ?_
  intro v7 w7 ho7 hE7 hk7 hb7
  refine ⟨.inr (hk7.mono fun b _ hb => by have := (hown.ge hb).1; show _ ≤ _; omega), ?_⟩
  simp (disch := first | omega | assumption | rfl) only [↓reduceIte, go_sem, Nat.reduceLT, Nat.reduceEqDiff, Nat.reduceSub, h3]
  have hk7s := hk7.size
  obtain ⟨a7, c7, hv7⟩ := ho7.slice
  have hb3w : w7.heap[b3]? = some (.cells [vi d.ty, nv, .slice au (d.nums.map v32).length cu, .slice at1 (d.texts.map vs).length ct, .slice ar (d.raw.map byteV).length cr].toArray 132 (0, 0)) := (hk7.block b3 (by omega) (fun h => by have := (hown.ge h).1; omega)).trans (Ext.at hx5 hb)
  refine sv_at (P := Tryz.prog) (t := 93) (j := 1) (l := [vi d.ty, nv, .slice au (d.nums.map v32).length cu, .slice at1 (d.texts.map vs).length ct, .slice ar (d.raw.map byteV).length cr]) hb3w (by simp) (by rw [hv7]; rfl) rfl rfl ?_
  intro z hz' hbz hkz
  refine ⟨.inl rfl, ?_⟩
  simp (disch := first | omega | assumption | rfl) only [↓reduceIte, go_sem, Nat.reduceLT, Nat.reduceEqDiff, Nat.reduceSub]
  refine hK _ _ ?_; clear hK hgd; clear K; try clear gd
  have hEz : Ext w1 z := Keep.to_ext (hE7 w1 (hEA.trans hx5) (by omega)) rfl (fun b hb => by omega) hkz
  repeat refine c_r ?_
  refine rg2 h4 hi1' ?_
  repeat refine c_r ?_
  exact ⟨m - 1, by omega, rfl, i + 1, v7, by omega, vq0, (vq1 h1), (vq1 h2), (vq1 h3), hbz, by rw [htk]; exact ho7.keep hkz (fun b hb h => by have := (ho7.ge hb).1; omega), hEz, by omega⟩
 ·intro hge
  simp only [decide_eq_false_iff_not] at hge
  have hi : i = vals.length := by omega
  rw [hi, List.take_length] at hown
  obtain ⟨na, nc, hnv⟩ := hown.slice
  repeat refine c_r ?_
  refine rq ?_; intro gd K hgd hK
  have d5 := sv_cells (n := 5) hb rfl
  try simp (disch := first | omega | assumption | rfl) only [↓reduceIte, go_sem, Nat.reduceLT, Nat.reduceEqDiff, Nat.reduceSub, h3, h2, d5]
  refine sv_all (P := Tryz.prog) (t := 132) (l := [vi d.ty, nv, .slice au (d.nums.map v32).length cu, .slice at1 (d.texts.map vs).length ct, .slice ar (d.raw.map byteV).length cr]) (Ext.at hEA hC) rfl (fun v h => by
   simp at h
   rcases h with rfl | rfl | rfl | rfl | rfl
   ·rfl
   ·rw [hnv]; rfl
   ·rfl
   ·rfl
   ·rfl) rfl rfl ?_
  intro z hz' hbz hkz
  try simp (disch := first | omega | assumption | rfl) only [↓reduceIte, go_sem, Nat.reduceLT, Nat.reduceEqDiff, Nat.reduceSub]
  refine hK _ _ ?_; clear hK hgd; clear K; try clear gd
  repeat refine c_r ?_
  refine ret_any (.inr rfl) Tryz.ntmps78 rfl (res_agg (x := ⟨w.heap.size + 1, 0, Option.none⟩) (k := 5) ((vq1 h2)) rfl rfl (sv_cells hbz rfl) res_nil) ?_
  have hEz : Ext w z := Keep.to_ext (hE1.trans hEA) rfl (fun b hb => by omega) hkz
  have hownz := hown.keep hkz (fun b hb h => by have := (hown.ge hb).1; omega)
  refine ⟨hEz, _, nv, rfl, ⟨⟨_, _, _, vals, rfl, hownz.row, hvl, hvr, hnu, htx, hrw⟩, fun a n c hv => ?_⟩⟩
  have := hownz.ge (b := a.block) (by rw [hv]; rfl)
  omega
end Go.Proofs.YtopbbjdembnfdaaGreat

namespace Go.Proofs.YtopbbjdembnfdaaGreat
open Go
set_option maxRecDepth 10000

theorem DatAt.open {w : World} {cs : List Value} {d : DatL} (h : DatAt w cs d) : ∃ a1 n1 c1 a2 n2 c2 a3 n3 c3 a4 n4 c4, cs = [vi d.ty, .slice a1 n1 c1, .slice a2 n2 c2, .slice a3 n3 c3, .slice a4 n4 c4] := by
 obtain ⟨nm, nu, tx, rw', rfl, ⟨vals, ⟨an, cn, rfl, _⟩, _⟩, ⟨au, cu, rfl, _⟩, ⟨at1, ct, rfl, _⟩, ⟨ar, cr, rfl, _⟩⟩ := h.ex
 exact ⟨_, _, _, _, _, _, _, _, _, _, _, _, rfl⟩

theorem DatX.open {w0 A : World} {B : Nat} {nm : Value} {cs : List Value} {d : DatL} (h : DatX w0 B A nm cs d) : ∃ a1 n1 c1 a2 n2 c2 a3 n3 c3 a4 n4 c4, cs = [vi d.ty, .slice a1 n1 c1, .slice a2 n2 c2, .slice a3 n3 c3, .slice a4 n4 c4] := by
 obtain ⟨nu, tx, rw, vals, e, ⟨a1, c1, rfl, _⟩, h2, h3, ⟨a4, c4, rfl, _⟩, ⟨a5, c5, rfl, _⟩, ⟨a6, c6, rfl, _⟩⟩ := h.ex
 exact ⟨_, _, _, _, _, _, _, _, _, _, _, _, e⟩
structure RecX (w0 : World) (B : Nat) (A : World) (nm : Value) (cs : List Value) (r : RecL) : Prop where
 ex : ∃ ow ds, cs = ow :: v32 r.ttl :: ds ∧ Row w0 ow (r.owner.map vs) ∧ DatX w0 B A nm ds r.dat
theorem RecX.at {w0 A : World} {B : Nat} {nm : Value} {cs : List Value} {r : RecL} (h : RecX w0 B A nm cs r) (hE : Ext w0 A) : RecAt A cs r := by
 obtain ⟨ow, ds, e, h1, h2⟩ := h.ex
 exact ⟨ow, ds, e, h1.ext hE, h2.at hE⟩
theorem RecX.keep {w0 A x : World} {B : Nat} {nm : Value} {cs : List Value} {r : RecL} (h : RecX w0 B A nm cs r) {S : Nat → Prop} (hk : Keep S A x) (hS : ∀ a n c, nm = .slice (some a) n c → ¬ S a.block) : RecX w0 B x nm cs r := by
 obtain ⟨ow, ds, e, h1, h2⟩ := h.ex
 exact ⟨ow, ds, e, h1, h2.keep hk hS⟩
theorem RecX.mono {w0 A : World} {B B' : Nat} {nm : Value} {cs : List Value} {r : RecL} (h : RecX w0 B A nm cs r) (hB : B' ≤ B) : RecX w0 B' A nm cs r := by
 obtain ⟨ow, ds, e, h1, h2⟩ := h.ex
 exact ⟨ow, ds, e, h1, h2.mono hB⟩
theorem RecX.blk {w0 A : World} {B : Nat} {nm : Value} {cs : List Value} {r : RecL} (h : RecX w0 B A nm cs r) : BlkB B A nm := by
 obtain ⟨ow, ds, e, h1, h2⟩ := h.ex
 exact h2.blk
theorem RecX.cells {w0 A : World} {B : Nat} {nm : Value} {cs : List Value} {r : RecL} (h : RecX w0 B A nm cs r) : cs.length = 7 ∧ ∀ q ∈ cs, one q = true := by
 obtain ⟨ow, ds, e, ⟨a, c, rfl, _⟩, h2⟩ := h.ex
 obtain ⟨b1, m1, e1, b2, m2, e2, b3, m3, e3, b4, m4, e4, hds⟩ := h2.open
 rw [e, hds]
 refine ⟨rfl, fun q hq => ?_⟩
 simp at hq
 rcases hq with rfl | rfl | rfl | rfl | rfl | rfl | rfl <;> rfl

set_option maxHeartbeats 1000000 in
theorem RcOf_ok {w0 w : World} (hE0 : Ext w0 w) {cs : List Value} {r : RecL} (hr : RecAt w0 cs r) (hnn : r.dat.names.length ≤ 1000000000) :
  Fn Tryz.prog 76 #[.agg cs.toArray] w (fun v w' => Ext w w' ∧ ∃ cs' nm, v = .agg cs'.toArray ∧ RecX w0 w.heap.size w' nm cs' r) := by
 obtain ⟨ow, ds, rfl, h1, h2⟩ := hr.ex
 obtain ⟨oa, oc, how, _⟩ := id h1
 obtain ⟨on, hon⟩ : ∃ on, (r.owner.map vs).length = on := ⟨_, rfl⟩
 rw [hon] at how
 obtain ⟨b1, m1, e1, b2, m2, e2, b3, m3, e3, b4, m4, e4, hds⟩ := h2.open
 rw [hds, how]
 refine enter Tryz.func76 Tryz.ntmps76 rfl rfl ?_
 repeat refine c_r ?_
 refine rg0 ?_
 repeat refine c_r ?_
 rw [new_size]
 refine W_alloc2 ?_
 intro w1 hE1 hs1 hA hC
 have p0 : cellO w1 (some ⟨w.heap.size, 0, Option.none⟩) = some (.slice oa on oc) := cellO_at hA rfl
 have p1 : cellO w1 (some ⟨w.heap.size, 1, Option.none⟩) = some (v32 r.ttl) := cellO_at hA rfl
 have p2 : cellsO w1 (some ⟨w.heap.size, 2, Option.none⟩) 5 = some [vi r.dat.ty, .slice b1 m1 e1, .slice b2 m2 e2, .slice b3 m3 e3, .slice b4 m4 e4] := by
  have h7 := sv_cells (n := 7) (l := [.slice oa on oc, v32 r.ttl, vi r.dat.ty, .slice b1 m1 e1, .slice b2 m2 e2, .slice b3 m3 e3, .slice b4 m4 e4]) hA rfl
  have := cells_drop (m := 2) (k := 5) h7
  rwa [adr_some] at this
 refine W_drw (fun i => i == 8) [(0, true), (1, true), (2, true), (3, true), (4, true), (5, true), (6, false), (7, true), (8, false)] NoS mixed (by kernel_rfl) ?_; intro gd K x hgd hx hxe hK; clear hxe
 have p0x := cellO_ext hx p0
 have p1x := cellO_ext hx p1
 have p2x := cellsO_ext hx p2
 have hxs := hx.size
 simp (disch := first | omega | assumption | rfl) only [↓reduceIte, go_sem, Nat.reduceLT, Nat.reduceEqDiff, Nat.reduceSub, p0x, p1x, p2x, Nat.add_zero, Nat.zero_add]
 rw [← hds]
 refine Fn.mono (DOf_ok (hE0.trans (hE1.trans hx)) h2 hnn) ?_
 rintro _ w2 ⟨hE2, cs', nm', rfl, hd'⟩
 refine ⟨.inr hE2, ?_⟩
 obtain ⟨b1', m1', e1', b2', m2', e2', b3', m3', e3', b4', m4', e4', hds'⟩ := hd'.open
 rw [hds']
 simp (disch := first | omega | assumption | rfl) only [↓reduceIte, go_sem, Nat.reduceLT, Nat.reduceEqDiff, Nat.reduceSub, p0x, p1x, p2x, Nat.add_zero, Nat.zero_add]
 refine ⟨by kernel_rfl, ?_⟩
 rw [show bdV Tryz.prog 139 [(0, .slice oa on oc), (1, v32 r.ttl), (2, .agg [vi r.dat.ty, .slice b1' m1' e1', .slice b2' m2' e2', .slice b3' m3' e3', .slice b4' m4' e4'].toArray)] = some (.agg #[.slice oa on oc, v32 r.ttl, vi r.dat.ty, .slice b1' m1' e1', .slice b2' m2' e2', .slice b3' m3' e3', .slice b4' m4' e4']) from by kernel_rfl]
 simp (disch := first | omega | assumption | rfl) only [↓reduceIte, go_sem, Nat.reduceLT, Nat.reduceEqDiff, Nat.reduceSub]
 refine sv_all (P := Tryz.prog) (t := 139) (l := [.slice oa on oc, v32 r.ttl, vi r.dat.ty, .slice b1' m1' e1', .slice b2' m2' e2', .slice b3' m3' e3', .slice b4' m4' e4']) (Ext.at (hx.trans hE2) hC) rfl (fun v h => by simp at h; rcases h with rfl | rfl | rfl | rfl | rfl | rfl | rfl <;> rfl) rfl rfl ?_
 intro z hz' hbz hkz
 refine ⟨.inl rfl, ?_⟩
 simp (disch := first | omega | assumption | rfl) only [↓reduceIte, go_sem, Nat.reduceLT, Nat.reduceEqDiff, Nat.reduceSub]
 refine hK _ _ ?_; clear hK hgd; clear K; try clear gd
 repeat refine c_r ?_
 refine ret_any (.inr rfl) Tryz.ntmps76 rfl (res_agg (x := ⟨w.heap.size + 1, 0, Option.none⟩) (k := 7) (vq0) rfl rfl (sv_cells hbz rfl) res_nil) ?_
 have hEz : Ext w z := Keep.to_ext (hE1.trans (hx.trans hE2)) rfl (fun b hb => by omega) hkz
 refine ⟨hEz, _, nm', rfl, ⟨ow, cs', ?_, h1, ?_⟩⟩
 ·rw [how, hds']
 ·exact (hd'.keep hkz (fun a n c hv => by have := hd'.blk a n c hv; omega)).mono (by omega)

abbrev OX := RecL × (Value × List Value)
def oxC (cs : List Value) (x : OX) : Prop := cs = x.2.2 ∧ cs.length = 7 ∧ ∀ q ∈ cs, one q = true
structure OI (w0 : World) (B : Nat) (A : World) (ov : Value) (G : List OX) : Prop where
 own : Owns 7 oxC B A 139 ov G
 row : ∀ x ∈ G, RecX w0 B A x.2.1 x.2.2 x.1 ∧ ∀ a n c, x.2.1 = .slice (some a) n c → some a.block ≠ ov.ownBlock
theorem OI.ext {w0 A A' : World} {B : Nat} {ov : Value} {G : List OX} (h : OI w0 B A ov G) (hE : Ext A A') : OI w0 B A' ov G :=
 ⟨h.own.ext hE, fun x hx => by
  obtain ⟨h1, h2⟩ := h.row x hx
  exact ⟨h1.keep hE (fun a n c hv h => h), h2⟩⟩
theorem OI.app {w0 A A' : World} {B : Nat} {ov v' : Value} {G : List OX} {s : OX} (h : OI w0 B A ov G) (hs : RecX w0 B A s.2.1 s.2.2 s.1 ∧ ∀ a n c, s.2.1 = .slice (some a) n c → some a.block ≠ ov.ownBlock)
  (ho : Owns 7 oxC B A' 139 v' (G ++ [s])) (hk : Keep (fun b => some b = ov.ownBlock) A A') (hb : ∀ b, some b = v'.ownBlock → some b = ov.ownBlock ∨ A.heap.size ≤ b) : OI w0 B A' v' (G ++ [s]) := by
 refine ⟨ho, fun y hy => ?_⟩
 have hy2 : RecX w0 B A y.2.1 y.2.2 y.1 ∧ ∀ a n c, y.2.1 = .slice (some a) n c → some a.block ≠ ov.ownBlock := by
  rcases List.mem_append.1 hy with hy | hy
  ·exact h.row y hy
  ·rw [List.mem_singleton.1 hy]; exact hs
 obtain ⟨h1, h2⟩ := hy2
 refine ⟨h1.keep hk h2, fun a n c hv e => ?_⟩
 rcases hb _ e with e | e
 ·exact h2 a n c hv e
 ·have := (h1.blk a n c hv).2; omega

end Go.Proofs.YtopbbjdembnfdaaGreat

namespace Go.Proofs.YtopbbjdembnfdaaGreat
open Go
set_option maxRecDepth 10000

theorem RCheckRec_ok {w0 w : World} (hE0 : Ext w0 w) {cs : List Value} {r : RecL} (hr : RecAt w0 cs r) (hf : DatF r.dat) (ho : (∀ l ∈ r.owner, l.length ≤ 1000000000) ∧ r.owner.length ≤ 1000000000) :
  Fn Tryz.prog 122 #[.agg cs.toArray] w (fun v w' => Ext w w' ∧ ∃ e : Int, v = vi e ∧ (e = 0 → checkN r.owner = 0 ∧ (∀ n ∈ r.dat.names, checkN n = 0) ∧ (leadT r.dat.ty → r.dat.names.length = 1))) := by
 obtain ⟨ow, ds, rfl, h1, h2⟩ := hr.ex
 obtain ⟨b1, m1, e1, b2, m2, e2, b3, m3, e3, b4, m4, e4, hds⟩ := h2.open
 rw [hds]
 refine enter Tryz.func122 Tryz.ntmps122 rfl rfl ?_
 repeat refine c_r ?_
 refine rg0 ?_
 repeat refine c_r ?_
 refine W_alloc1 ?_
 intro w1 hE1 hs1 hA
 have p0 : cellO w1 (some ⟨w.heap.size, 0, Option.none⟩) = some ow := cellO_at hA rfl
 have p1 : cellO w1 (some ⟨w.heap.size, 1, Option.none⟩) = some (v32 r.ttl) := cellO_at hA rfl
 have p2 : cellsO w1 (some ⟨w.heap.size, 2, Option.none⟩) 5 = some ds := by
  have h7 := sv_cells (n := 7) (l := [ow, v32 r.ttl, vi r.dat.ty, .slice b1 m1 e1, .slice b2 m2 e2, .slice b3 m3 e3, .slice b4 m4 e4]) hA rfl
  have := cells_drop (m := 2) (k := 5) h7
  rw [adr_some] at this
  rw [hds]; exact this
 refine rq ?_; intro gd K hgd hK
 try simp (disch := first | omega | assumption | rfl) only [↓reduceIte, go_sem, Nat.reduceLT, Nat.reduceEqDiff, Nat.reduceSub, p0, Nat.add_zero]
 refine Fn.mono (RCheckName_ok w1 ow r.owner (h1.ext (hE0.trans hE1)) ho.1 ho.2) ?_
 rintro _ w2 ⟨rfl, hE2⟩
 try simp (disch := first | omega | assumption | rfl) only [↓reduceIte, go_sem, Nat.reduceLT, Nat.reduceEqDiff, Nat.reduceSub]
 refine hK _ _ ?_; clear hK hgd; clear K; try clear gd
 have hE12 := hE1.trans hE2
 have p1' := cellO_ext hE2 p1
 have p2' := cellsO_ext hE2 p2
 repeat refine c_r ?_
 refine rg0 ?_
 repeat refine c_r ?_
 by_cases h0 : checkN r.owner = 0
 rotate_left
 ·refine W_cond (t := !decide (checkN r.owner = 0)) (vr0) ?_ (fun h => by rw [decide_eq_false h0] at h; cases h)
  intro _
  repeat refine c_r ?_
  refine rg0 ?_
  repeat refine c_r ?_
  refine rt0 Tryz.ntmps122 ?_
  exact ⟨hE12, _, rfl, fun h => absurd h h0⟩
 refine W_cond (t := !decide (checkN r.owner = 0)) (vr0) (fun h => by rw [decide_eq_true h0] at h; cases h) ?_
 intro _
 repeat refine c_r ?_
 refine rg2 p1' Nat.zero_add ?_
 repeat refine c_r ?_
 refine wc0 ?_ ?_
 ·intro _
  repeat (first | refine c_r ?_ | refine rg0 ?_)
  refine rt0 Tryz.ntmps122 ?_
  exact ⟨hE12, 7, rfl, fun h => by cases h⟩
 intro _
 repeat refine c_r ?_
 refine rq ?_; intro gd K hgd hK
 try simp (disch := first | omega | assumption | rfl) only [↓reduceIte, go_sem, Nat.reduceLT, Nat.reduceEqDiff, Nat.reduceSub, p2', Nat.zero_add]
 refine Fn.mono (RCheckData_ok (hE0.trans hE12) h2 hf) ?_
 rintro _ w3 ⟨hE3, e, rfl, he⟩
 try simp (disch := first | omega | assumption | rfl) only [↓reduceIte, go_sem, Nat.reduceLT, Nat.reduceEqDiff, Nat.reduceSub]
 refine hK _ _ ?_; clear hK hgd; clear K; try clear gd
 repeat refine c_r ?_
 refine rt0 Tryz.ntmps122 ?_
 exact ⟨hE12.trans hE3, e, rfl, fun h => ⟨h0, he h⟩⟩

theorem few_f {n : Nm} (h : few n = true) : (∀ l ∈ n, l.length ≤ 1000000000) ∧ n.length ≤ 1000000000 := by
 simp only [few, Bool.and_eq_true, List.all_eq_true, decide_eq_true_eq] at h
 exact ⟨fun l hl => by have := h.2 l hl; omega, by omega⟩

set_option maxHeartbeats 1000000 in
theorem DFew_ok {w0 w : World} (hE0 : Ext w0 w) {cs : List Value} {d : DatL} (hd : DatAt w0 cs d) :
  Fn Tryz.prog 172 #[.agg cs.toArray] w (fun v w' => Ext w w' ∧ ∃ b : Bool, v = .bool b ∧ (b = true → DatF d)) := by
 obtain ⟨nm, nu, tx, rw', rfl, ⟨vals, ⟨an, cn, rfl, hcn, hgn⟩, hvl, hvr⟩, ⟨au, cu, rfl, hcu, hgu⟩, ⟨at1, ct, rfl, hct, hgt⟩, ⟨ar, cr, rfl, hcr, hgr⟩⟩ := hd.ex
 simp only [List.length_map] at hcu hgu hct hgt hcr hgr
 simp only [List.length_map]
 refine enter Tryz.func172 Tryz.ntmps172 rfl rfl ?_
 repeat refine c_r ?_
 refine rg0 ?_
 repeat refine c_r ?_
 refine W_alloc1 ?_
 intro w1 hE1 hs1 hA
 have p1 : cellO w1 (some ⟨w.heap.size, 1, Option.none⟩) = some (.slice an vals.length cn) := cellO_at hA rfl
 have p2 : cellO w1 (some ⟨w.heap.size, 2, Option.none⟩) = some (.slice au d.nums.length cu) := cellO_at hA rfl
 have p3 : cellO w1 (some ⟨w.heap.size, 3, Option.none⟩) = some (.slice at1 d.texts.length ct) := cellO_at hA rfl
 have p4 : cellO w1 (some ⟨w.heap.size, 4, Option.none⟩) = some (.slice ar d.raw.length cr) := cellO_at hA rfl
 refine W_mono (Q := fun e σ' ds' v' => e = .normal ∧ ds' = [] ∧ σ' 1 = .pointer (some ⟨w.heap.size, 0, Option.none⟩) ∧ v' = w1 ∧ ∃ bb, σ' 26 = .bool bb ∧ (bb = false → vals.length ≤ 8 ∧ d.nums.length ≤ 12 ∧ d.texts.length ≤ 40 ∧ d.raw.length ≤ 1100)) ?_ ?_
 ·by_cases hA1 : (vals.length : Int) > 8
  ·refine rq ?_; intro gd K hgd hK
   have hg4 : ∀ n σ b, wantV gd n σ (some (4, b)) = boolIs (ev n σ (.tmp 9)) b := (fun n σ b => by rw [wantV_some, show gd 4 = some 9 from (by rw [hgd]; rfl)]; rfl); have hg10 : ∀ n σ b, wantV gd n σ (some (10, b)) = boolIs (ev n σ (.tmp 15)) b := (fun n σ b => by rw [wantV_some, show gd 10 = some 15 from (by rw [hgd]; rfl)]; rfl); have hg16 : ∀ n σ b, wantV gd n σ (some (16, b)) = boolIs (ev n σ (.tmp 21)) b := (fun n σ b => by rw [wantV_some, show gd 16 = some 21 from (by rw [hgd]; rfl)]; rfl)
   try simp (disch := first | omega | assumption | rfl) only [↓reduceIte, go_sem, Nat.reduceLT, Nat.reduceEqDiff, Nat.reduceSub, p1, Nat.zero_add, decide_eq_true hA1, bi_undef, ↓hg4, ↓hg10, ↓hg16]
   refine hK _ _ ?_; clear hK hgd; clear K; try clear gd
   exact ⟨rfl, rfl, vq0, rfl, _, vr0, fun h => by cases h⟩
  by_cases hA2 : (d.nums.length : Int) > 12
  ·refine rq ?_; intro gd K hgd hK
   have hg4 : ∀ n σ b, wantV gd n σ (some (4, b)) = boolIs (ev n σ (.tmp 9)) b := (fun n σ b => by rw [wantV_some, show gd 4 = some 9 from (by rw [hgd]; rfl)]; rfl); have hg10 : ∀ n σ b, wantV gd n σ (some (10, b)) = boolIs (ev n σ (.tmp 15)) b := (fun n σ b => by rw [wantV_some, show gd 10 = some 15 from (by rw [hgd]; rfl)]; rfl); have hg16 : ∀ n σ b, wantV gd n σ (some (16, b)) = boolIs (ev n σ (.tmp 21)) b := (fun n σ b => by rw [wantV_some, show gd 16 = some 21 from (by rw [hgd]; rfl)]; rfl)
   try simp (disch := first | omega | assumption | rfl) only [↓reduceIte, go_sem, Nat.reduceLT, Nat.reduceEqDiff, Nat.reduceSub, p1, p2, Nat.zero_add, decide_eq_false hA1, decide_eq_true hA2, bi_undef, ↓hg4, ↓hg10, ↓hg16]
   refine hK _ _ ?_; clear hK hgd; clear K; try clear gd
   exact ⟨rfl, rfl, vq0, rfl, _, vr0, fun h => by cases h⟩
  by_cases hA3 : (d.texts.length : Int) > 40
  ·refine rq ?_; intro gd K hgd hK
   have hg4 : ∀ n σ b, wantV gd n σ (some (4, b)) = boolIs (ev n σ (.tmp 9)) b := (fun n σ b => by rw [wantV_some, show gd 4 = some 9 from (by rw [hgd]; rfl)]; rfl); have hg10 : ∀ n σ b, wantV gd n σ (some (10, b)) = boolIs (ev n σ (.tmp 15)) b := (fun n σ b => by rw [wantV_some, show gd 10 = some 15 from (by rw [hgd]; rfl)]; rfl); have hg16 : ∀ n σ b, wantV gd n σ (some (16, b)) = boolIs (ev n σ (.tmp 21)) b := (fun n σ b => by rw [wantV_some, show gd 16 = some 21 from (by rw [hgd]; rfl)]; rfl)
   try simp (disch := first | omega | assumption | rfl) only [↓reduceIte, go_sem, Nat.reduceLT, Nat.reduceEqDiff, Nat.reduceSub, p1, p2, p3, Nat.zero_add, decide_eq_false hA1, decide_eq_false hA2, decide_eq_true hA3, bi_undef, ↓hg4, ↓hg10, ↓hg16]
   refine hK _ _ ?_; clear hK hgd; clear K; try clear gd
   exact ⟨rfl, rfl, vq0, rfl, _, vr0, fun h => by cases h⟩
  by_cases hA4 : (d.raw.length : Int) > 1100
  ·refine rq ?_; intro gd K hgd hK
   have hg4 : ∀ n σ b, wantV gd n σ (some (4, b)) = boolIs (ev n σ (.tmp 9)) b := (fun n σ b => by rw [wantV_some, show gd 4 = some 9 from (by rw [hgd]; rfl)]; rfl); have hg10 : ∀ n σ b, wantV gd n σ (some (10, b)) = boolIs (ev n σ (.tmp 15)) b := (fun n σ b => by rw [wantV_some, show gd 10 = some 15 from (by rw [hgd]; rfl)]; rfl); have hg16 : ∀ n σ b, wantV gd n σ (some (16, b)) = boolIs (ev n σ (.tmp 21)) b := (fun n σ b => by rw [wantV_some, show gd 16 = some 21 from (by rw [hgd]; rfl)]; rfl)
   try simp (disch := first | omega | assumption | rfl) only [↓reduceIte, go_sem, Nat.reduceLT, Nat.reduceEqDiff, Nat.reduceSub, p1, p2, p3, p4, Nat.zero_add, decide_eq_false hA1, decide_eq_false hA2, decide_eq_false hA3, decide_eq_true hA4, bi_undef, ↓hg4, ↓hg10, ↓hg16]
   refine hK _ _ ?_; clear hK hgd; clear K; try clear gd
   exact ⟨rfl, rfl, vq0, rfl, _, vr0, fun h => by cases h⟩
  ·refine rq ?_; intro gd K hgd hK
   have hg4 : ∀ n σ b, wantV gd n σ (some (4, b)) = boolIs (ev n σ (.tmp 9)) b := (fun n σ b => by rw [wantV_some, show gd 4 = some 9 from (by rw [hgd]; rfl)]; rfl); have hg10 : ∀ n σ b, wantV gd n σ (some (10, b)) = boolIs (ev n σ (.tmp 15)) b := (fun n σ b => by rw [wantV_some, show gd 10 = some 15 from (by rw [hgd]; rfl)]; rfl); have hg16 : ∀ n σ b, wantV gd n σ (some (16, b)) = boolIs (ev n σ (.tmp 21)) b := (fun n σ b => by rw [wantV_some, show gd 16 = some 21 from (by rw [hgd]; rfl)]; rfl)
   try simp (disch := first | omega | assumption | rfl) only [↓reduceIte, go_sem, Nat.reduceLT, Nat.reduceEqDiff, Nat.reduceSub, p1, p2, p3, p4, Nat.zero_add, decide_eq_false hA1, decide_eq_false hA2, decide_eq_false hA3, decide_eq_false hA4, bi_undef, ↓hg4, ↓hg10, ↓hg16]
   refine hK _ _ ?_; clear hK hgd; clear K; try clear gd
   exact ⟨rfl, rfl, vq0, rfl, _, vr0, fun _ => ⟨by omega, by omega, by omega, by omega⟩⟩
 rintro _ σ1 _ v1 ⟨rfl, rfl, h1, hv1, bb, h26, hbb⟩
 rw [hv1]
 clear hv1 v1
 repeat refine c_r ?_
 refine W_cond (t := bb) ((vq1 h26)) ?_ ?_
 ·intro _
  repeat (first | refine c_r ?_ | refine rg0 ?_)
  refine rt0 Tryz.ntmps172 ?_
  exact ⟨hE1, false, rfl, fun h => by cases h⟩
 intro hb
 obtain ⟨ln, lu, lt, lr⟩ := hbb hb
 repeat refine c_r ?_
 refine rg0 ?_
 repeat refine c_r ?_
 refine W_mono (Q := fun e σ' ds' v' => ds' = [] ∧ Ext w1 v' ∧ ((e = .exit 0 ∧ σ' 1 = .pointer (some ⟨w.heap.size, 0, Option.none⟩) ∧ ∀ n ∈ d.names, few n = true) ∨ (e = .ret ∧ σ' 2 = .bool false))) ?_ ?_
 ·refine W_loop (fun m σ ds A => ds = [] ∧ ∃ (i : Nat), i + m = vals.length ∧ σ 3 = vi i ∧ σ 1 = .pointer (some ⟨w.heap.size, 0, Option.none⟩) ∧ Ext w1 A ∧ ∀ j (h : j < d.names.length), j < i → few d.names[j] = true) vals.length ?_ ?_
  ·exact ⟨rfl, 0, by omega, vr0, (vq1 h1), Keep.refl _ _, fun j h hj => absurd hj (by omega)⟩
  clear h1
  rintro m σ ds A ⟨rfl, i, him, h3, h1, hEA, hlow⟩
  have q1 := cellO_ext hEA p1
  repeat refine c_r ?_
  refine rg4 h3 h1 q1 Nat.zero_add ?_
  repeat refine c_r ?_
  refine wc0 ?_ ?_
  ·intro hlt
   simp only [decide_eq_true_eq] at hlt
   have hi : i < vals.length := by omega
   have hi0 : (0 : Int) ≤ (i : Int) := by omega
   have hi1 : (i : Int) < (vals.length : Int) := by omega
   have hi1' : (i : Int) + 1 = ((i + 1 : Nat) : Int) := by push_cast; rfl
   have hgi := hgn i hi
   obtain ⟨xN, rfl⟩ := Option.isSome_iff_exists.1 (some_of_cellO hgi)
   have hgi' := cellO_ext (hE0.trans (hE1.trans hEA)) hgi
   have hrow := hvr i hi (by omega)
   obtain ⟨n, hn⟩ : ∃ n, d.names[i]'(by omega) = n := ⟨_, rfl⟩
   rw [hn] at hrow
   obtain ⟨hv, hhv⟩ : ∃ hv, vals[i] = hv := ⟨_, rfl⟩
   rw [hhv] at hgi' hrow
   repeat refine c_r ?_
   refine rq ?_; intro gd K hgd hK
   try simp (disch := first | omega | assumption | rfl) only [↓reduceIte, go_sem, Nat.reduceLT, Nat.reduceEqDiff, Nat.reduceSub, h3, h1, q1, Nat.zero_add, hi0, hi1, hgi']
   refine Fn.mono (Few_ok A hv n (hrow.ext (hE0.trans (hE1.trans hEA)))) ?_
   rintro _ A2 ⟨rfl, hA2⟩
   try simp (disch := first | omega | assumption | rfl) only [↓reduceIte, go_sem, Nat.reduceLT, Nat.reduceEqDiff, Nat.reduceSub]
   refine hK _ _ ?_; clear hK hgd; clear K; try clear gd
   repeat refine c_r ?_
   refine W_cond (t := !few n) (vr0) ?_ ?_
   ·intro _
    repeat refine c_r ?_
    refine rg0 ?_
    repeat refine c_r ?_
    exact ⟨rfl, hEA.trans hA2, .inr ⟨rfl, vq0⟩⟩
   ·intro hfn
    repeat refine c_r ?_
    refine rg2 h3 hi1' ?_
    repeat refine c_r ?_
    refine ⟨m - 1, by omega, rfl, i + 1, by omega, vq0, (vq1 h1), hEA.trans hA2, fun j hj hji => ?_⟩
    by_cases hj2 : j = i
    ·subst hj2; rw [hn]; simpa using hfn
    ·exact hlow j hj (by omega)
  ·intro hge
   simp only [decide_eq_false_iff_not] at hge
   repeat refine c_r ?_
   refine ⟨rfl, hEA, .inl ⟨rfl, (vq1 h1), fun n hn => ?_⟩⟩
   obtain ⟨j, hj, rfl⟩ := List.getElem_of_mem hn
   exact hlow j hj (by omega)
 clear h1
 rintro e σ4 _ A ⟨rfl, hEA, ⟨rfl, h1, hall⟩ | ⟨rfl, h2⟩⟩
 rotate_left
 ·repeat refine c_r ?_
  refine rt1 h2 Tryz.ntmps172 ?_
  exact ⟨hE1.trans hEA, false, rfl, fun h => by cases h⟩
 have q3 := cellO_ext hEA p3
 repeat refine c_r ?_
 refine rg0 ?_
 repeat refine c_r ?_
 refine W_mono (Q := fun e σ' ds' v' => ds' = [] ∧ v' = A ∧ ((e = .exit 2 ∧ σ' 1 = .pointer (some ⟨w.heap.size, 0, Option.none⟩) ∧ ∀ l ∈ d.texts, l.length ≤ 300) ∨ (e = .ret ∧ σ' 2 = .bool false))) ?_ ?_
 ·refine W_loop (fun m σ ds B => ds = [] ∧ ∃ (i : Nat), i + m = d.texts.length ∧ σ 4 = vi i ∧ σ 1 = .pointer (some ⟨w.heap.size, 0, Option.none⟩) ∧ B = A ∧ ∀ j (h : j < d.texts.length), j < i → d.texts[j].length ≤ 300) d.texts.length ?_ ?_
  ·exact ⟨rfl, 0, by omega, vr0, (vq1 h1), rfl, fun j h hj => absurd hj (by omega)⟩
  clear h1
  rintro m σ ds B ⟨rfl, i, him, h4, h1, hB2, hlow⟩
  rw [hB2]
  clear hB2 B
  repeat refine c_r ?_
  refine rg4 h4 h1 q3 Nat.zero_add ?_
  repeat refine c_r ?_
  refine wc0 ?_ ?_
  ·intro hlt
   simp only [decide_eq_true_eq] at hlt
   have hi : i < d.texts.length := by omega
   have hi0 : (0 : Int) ≤ (i : Int) := by omega
   have hi1 : (i : Int) < (d.texts.length : Int) := by omega
   have hi1' : (i : Int) + 1 = ((i + 1 : Nat) : Int) := by push_cast; rfl
   have hgi := hgt i hi
   obtain ⟨xT, rfl⟩ := Option.isSome_iff_exists.1 (some_of_cellO hgi)
   have hgi' := cellO_ext (hE0.trans (hE1.trans hEA)) hgi
   rw [List.getElem_map] at hgi'
   repeat refine c_r ?_
   refine rg7 h4 h1 q3 Nat.zero_add hi0 hi1 hgi' ?_
   repeat refine c_r ?_
   refine wc0 ?_ ?_
   ·intro hgt2
    repeat refine c_r ?_
    refine rg0 ?_
    repeat refine c_r ?_
    exact ⟨rfl, rfl, .inr ⟨rfl, vq0⟩⟩
   ·intro hgt2
    simp only [decide_eq_false_iff_not] at hgt2
    repeat refine c_r ?_
    refine rg2 h4 hi1' ?_
    repeat refine c_r ?_
    refine ⟨m - 1, by omega, rfl, i + 1, by omega, vq0, (vq1 h1), rfl, fun j hj hji => ?_⟩
    by_cases hj2 : j = i
    ·subst hj2; omega
    ·exact hlow j hj (by omega)
  ·intro hge
   simp only [decide_eq_false_iff_not] at hge
   repeat refine c_r ?_
   refine ⟨rfl, rfl, .inl ⟨rfl, (vq1 h1), fun l hl => ?_⟩⟩
   obtain ⟨j, hj, rfl⟩ := List.getElem_of_mem hl
   exact hlow j hj (by omega)
 clear h1
 rintro e σ6 _ v1 ⟨rfl, hv1, ⟨rfl, h1, htl⟩ | ⟨rfl, h2⟩⟩
 rotate_left
 ·rw [hv1]
  repeat refine c_r ?_
  refine rt1 h2 Tryz.ntmps172 ?_
  exact ⟨hE1.trans hEA, false, rfl, fun h => by cases h⟩
 rw [hv1]
 clear hv1 v1
 repeat (first | refine c_r ?_ | refine rg0 ?_)
 refine rt0 Tryz.ntmps172 ?_
 exact ⟨hE1.trans hEA, true, rfl, fun _ => ⟨fun n hn => few_f (hall n hn), by omega, by omega, by omega, fun l hl => by have := htl l hl; omega, by omega⟩⟩
end Go.Proofs.YtopbbjdembnfdaaGreat

namespace Go.Proofs.YtopbbjdembnfdaaGreat
open Go
set_option maxRecDepth 10000

set_option maxHeartbeats 1000000 in
theorem RsFew_ok {w0 w : World} (hE0 : Ext w0 w) {lv : Value} {R : List RecL} (hl : Rows 7 (RecAt w0) w lv R) :
  Fn Tryz.prog 121 #[lv] w (fun v w' => Ext w w' ∧ ∃ b : Bool, v = .bool b ∧ (b = true → R.length ≤ 60 ∧ ∀ r ∈ R, few r.owner = true ∧ DatF r.dat)) := by
 obtain ⟨aR, cR, rfl, hcR, hgR⟩ := hl.open
 refine enter Tryz.func121 Tryz.ntmps121 rfl rfl ?_
 repeat refine c_r ?_
 refine rg0 ?_
 repeat refine c_r ?_
 refine rg0 ?_
 repeat refine c_r ?_
 refine wc0 ?_ ?_
 ·intro _
  repeat (first | refine c_r ?_ | refine rg0 ?_)
  refine rt0 Tryz.ntmps121 ?_
  exact ⟨Keep.refl _ _, false, rfl, fun h => by cases h⟩
 intro h60
 simp only [decide_eq_false_iff_not] at h60
 repeat refine c_r ?_
 refine rg0 ?_
 repeat refine c_r ?_
 refine W_loop (fun m σ ds A => ds = [] ∧ ∃ (i : Nat), i + m = R.length ∧ σ 3 = vi i ∧ σ 0 = .slice aR R.length cR ∧ Ext w A ∧ ∀ j (h : j < R.length), j < i → few R[j].owner = true ∧ DatF R[j].dat) R.length ?_ ?_
 ·exact ⟨rfl, 0, by omega, vr0, vq0, Keep.refl _ _, fun j h hj => absurd hj (by omega)⟩
 rintro m σ ds A ⟨rfl, i, him, h3, h0, hEA, hlow⟩
 repeat refine c_r ?_
 refine rg2 h3 h0 ?_
 repeat refine c_r ?_
 refine wc0 ?_ ?_
 ·intro hlt
  simp only [decide_eq_true_eq] at hlt
  have hi : i < R.length := by omega
  have hi0 : (0 : Int) ≤ (i : Int) := by omega
  have hi1 : (i : Int) < (R.length : Int) := by omega
  have hi1' : (i : Int) + 1 = ((i + 1 : Nat) : Int) := by push_cast; rfl
  obtain ⟨cr, hcr, hRr⟩ := hgR i hi
  obtain ⟨r, hr⟩ : ∃ r, R[i] = r := ⟨_, rfl⟩
  rw [hr] at hRr
  obtain ⟨ow, dsc, hcrE, o1, o2, g0, g1, g2, gd⟩ := hRr.cells
  obtain ⟨xR, rfl⟩ := Option.isSome_iff_exists.1 (cellsO_some hcr)
  obtain ⟨xi, hxi⟩ : ∃ xi, adr (some xR) (i * 7) = some xi := ⟨_, rfl⟩
  rw [hxi] at hcr
  obtain ⟨xd, hxd⟩ : ∃ xd, adr (some xi) 2 = some xd := ⟨_, rfl⟩
  have rc : ∀ {x}, Ext w x → cellO x (some xi) = some ow ∧ cellsO x (some xd) 5 = some dsc := fun {x} hx => by
   have hcx := cellsO_ext hx hcr
   have e0 := cell_of_cells hcx g0
   have e5 := cells_drop (m := 2) (k := 5) hcx
   rw [adr_zero] at e0
   rw [hxd, gd] at e5
   exact ⟨e0, e5⟩
  obtain ⟨c0, _⟩ := rc hEA
  have hwA := hE0.trans hEA
  repeat refine c_r ?_
  refine W_mono (Q := fun e σ' ds' v' => e = .normal ∧ ds' = [] ∧ σ' 3 = vi i ∧ σ' 0 = .slice (some xR) R.length cR ∧ Ext A v' ∧ ∃ bb, σ' 28 = .bool bb ∧ (bb = false → few r.owner = true ∧ DatF r.dat)) ?_ ?_
  ·cases hf : few r.owner with
   | false =>
    refine rq ?_; intro gd K hgd hK
    have hg7 : ∀ n σ b, wantV gd n σ (some (7, b)) = boolIs (ev n σ (.tmp 20)) b := (fun n σ b => by rw [wantV_some, show gd 7 = some 20 from (by rw [hgd]; rfl)]; rfl)
    try simp (disch := first | omega | assumption | rfl) only [↓reduceIte, go_sem, Nat.reduceLT, Nat.reduceEqDiff, Nat.reduceSub, h0, h3, hi0, hi1, hxi, c0, adr_zero]
    refine Fn.mono (Few_ok A ow r.owner (o1.ext hwA)) ?_
    rintro _ A2 ⟨rfl, hA2⟩
    rw [hf]
    try simp (disch := first | omega | assumption | rfl) only [↓reduceIte, go_sem, Nat.reduceLT, Nat.reduceEqDiff, Nat.reduceSub, Bool.not_false, ↓hg7]
    refine hK _ _ ?_; clear hK hgd; clear K; try clear gd
    exact ⟨rfl, rfl, (vq1 h3), (vq1 h0), hA2, _, vr0, fun h => by cases h⟩
   | true =>
    refine rq ?_; intro gd K hgd hK
    have hg7 : ∀ n σ b, wantV gd n σ (some (7, b)) = boolIs (ev n σ (.tmp 20)) b := (fun n σ b => by rw [wantV_some, show gd 7 = some 20 from (by rw [hgd]; rfl)]; rfl)
    try simp (disch := first | omega | assumption | rfl) only [↓reduceIte, go_sem, Nat.reduceLT, Nat.reduceEqDiff, Nat.reduceSub, h0, h3, hi0, hi1, hxi, c0, adr_zero]
    refine Fn.mono (Few_ok A ow r.owner (o1.ext hwA)) ?_
    rintro _ A2 ⟨rfl, hA2⟩
    rw [hf]
    obtain ⟨_, c5⟩ := rc (hEA.trans hA2)
    try simp (disch := first | omega | assumption | rfl) only [↓reduceIte, go_sem, Nat.reduceLT, Nat.reduceEqDiff, Nat.reduceSub, h0, h3, hi0, hi1, hxi, hxd, c5, Bool.not_true, ↓hg7]
    refine Fn.mono (DFew_ok (hwA.trans hA2) o2) ?_
    rintro _ A3 ⟨hA3, b, rfl, hb⟩
    try simp (disch := first | omega | assumption | rfl) only [↓reduceIte, go_sem, Nat.reduceLT, Nat.reduceEqDiff, Nat.reduceSub, ↓hg7]
    refine hK _ _ ?_; clear hK hgd; clear K; try clear gd
    exact ⟨rfl, rfl, (vq1 h3), (vq1 h0), hA2.trans hA3, _, vr0, fun h => ⟨rfl, hb (by simpa using h)⟩⟩
  clear h3 h0
  rintro _ σ1 _ A1 ⟨rfl, rfl, h3, h0, hA1, bb, h28, hbb⟩
  repeat refine c_r ?_
  refine W_cond (t := bb) ((vq1 h28)) ?_ ?_
  ·intro _
   repeat (first | refine c_r ?_ | refine rg0 ?_)
   refine rt0 Tryz.ntmps121 ?_
   exact ⟨hEA.trans hA1, false, rfl, fun h => by cases h⟩
  ·intro ht
   repeat refine c_r ?_
   refine rg2 h3 hi1' ?_
   repeat refine c_r ?_
   refine ⟨m - 1, by omega, rfl, i + 1, by omega, vq0, (vq1 h0), hEA.trans hA1, fun j hj hji => ?_⟩
   by_cases hj2 : j = i
   ·subst hj2; rw [hr]; exact hbb ht
   ·exact hlow j hj (by omega)
 ·intro hge
  simp only [decide_eq_false_iff_not] at hge
  repeat (first | refine c_r ?_ | refine rg0 ?_)
  refine rt0 Tryz.ntmps121 ?_
  refine ⟨hEA, true, rfl, fun _ => ⟨by omega, fun r hr => ?_⟩⟩
  obtain ⟨j, hj, rfl⟩ := List.getElem_of_mem hr
  exact hlow j hj (by omega)

structure GoodRs (R : List RecL) : Prop where
 len : R.length ≤ 60
 few : ∀ r ∈ R, few r.owner = true ∧ DatF r.dat
 own : ∀ r ∈ R, checkN r.owner = 0
 names : ∀ r ∈ R, ∀ n ∈ r.dat.names, checkN n = 0
 lead : ∀ r ∈ R, leadT r.dat.ty → r.dat.names.length = 1

set_option maxHeartbeats 1000000 in
theorem RsGood_ok {w0 w : World} (hE0 : Ext w0 w) {lv : Value} {R : List RecL} (hl : Rows 7 (RecAt w0) w lv R) :
  Fn Tryz.prog 55 #[lv] w (fun v w' => Ext w w' ∧ ∃ b : Bool, v = .bool b ∧ (b = true → GoodRs R)) := by
 obtain ⟨aR, cR, rfl, hcR, hgR⟩ := hl.open
 refine enter Tryz.func55 Tryz.ntmps55 rfl rfl ?_
 repeat refine c_r ?_
 refine rg0 ?_
 repeat refine c_r ?_
 refine rq ?_; intro gd K hgd hK
 try simp (disch := first | omega | assumption | rfl) only [↓reduceIte, go_sem, Nat.reduceLT, Nat.reduceEqDiff, Nat.reduceSub]
 refine Fn.mono (RsFew_ok hE0 hl) ?_
 rintro _ w1 ⟨hE1, b, rfl, hb⟩
 try simp (disch := first | omega | assumption | rfl) only [↓reduceIte, go_sem, Nat.reduceLT, Nat.reduceEqDiff, Nat.reduceSub]
 refine hK _ _ ?_; clear hK hgd; clear K; try clear gd
 repeat refine c_r ?_
 refine W_cond (t := !b) (vr0) ?_ ?_
 ·intro _
  repeat (first | refine c_r ?_ | refine rg0 ?_)
  refine rt0 Tryz.ntmps55 ?_
  exact ⟨hE1, false, rfl, fun h => by cases h⟩
 intro hb2
 obtain ⟨hRl, hRf⟩ := hb (by simpa using hb2)
 repeat refine c_r ?_
 refine rg0 ?_
 repeat refine c_r ?_
 refine W_loop (fun m σ ds A => ds = [] ∧ ∃ (i : Nat), i + m = R.length ∧ σ 3 = vi i ∧ σ 0 = .slice aR R.length cR ∧ Ext w A ∧ ∀ j (h : j < R.length), j < i → checkN R[j].owner = 0 ∧ (∀ n ∈ R[j].dat.names, checkN n = 0) ∧ (leadT R[j].dat.ty → R[j].dat.names.length = 1)) R.length ?_ ?_
 ·exact ⟨rfl, 0, by omega, vr0, vq0, hE1, fun j h hj => absurd hj (by omega)⟩
 rintro m σ ds A ⟨rfl, i, him, h3, h0, hEA, hlow⟩
 repeat refine c_r ?_
 refine rg2 h3 h0 ?_
 repeat refine c_r ?_
 refine wc0 ?_ ?_
 ·intro hlt
  simp only [decide_eq_true_eq] at hlt
  have hi : i < R.length := by omega
  have hi0 : (0 : Int) ≤ (i : Int) := by omega
  have hi1 : (i : Int) < (R.length : Int) := by omega
  have hi1' : (i : Int) + 1 = ((i + 1 : Nat) : Int) := by push_cast; rfl
  obtain ⟨cr, hcr, hRr⟩ := hgR i hi
  obtain ⟨r, hr⟩ : ∃ r, R[i] = r := ⟨_, rfl⟩
  rw [hr] at hRr
  obtain ⟨f1, f2⟩ := hRf r (hr ▸ List.getElem_mem hi)
  obtain ⟨xR, rfl⟩ := Option.isSome_iff_exists.1 (cellsO_some hcr)
  obtain ⟨xi, hxi⟩ : ∃ xi, adr (some xR) (i * 7) = some xi := ⟨_, rfl⟩
  rw [hxi] at hcr
  have hcA := cellsO_ext hEA hcr
  have hwA := hE0.trans hEA
  repeat refine c_r ?_
  refine rq ?_; intro gd K hgd hK
  try simp (disch := first | omega | assumption | rfl) only [↓reduceIte, go_sem, Nat.reduceLT, Nat.reduceEqDiff, Nat.reduceSub, h0, h3, hi0, hi1, hxi, hcA]
  refine Fn.mono (RcOf_ok hwA hRr f2.nn) ?_
  rintro _ A2 ⟨hA2, cs', nm', rfl, hx⟩
  try simp (disch := first | omega | assumption | rfl) only [↓reduceIte, go_sem, Nat.reduceLT, Nat.reduceEqDiff, Nat.reduceSub]
  refine Fn.mono (RCheckRec_ok (Keep.refl _ A2) (hx.at (hwA.trans hA2)) f2 (few_f f1)) ?_
  rintro _ A3 ⟨hA3, e, rfl, he⟩
  try simp (disch := first | omega | assumption | rfl) only [↓reduceIte, go_sem, Nat.reduceLT, Nat.reduceEqDiff, Nat.reduceSub]
  refine hK _ _ ?_; clear hK hgd; clear K; try clear gd
  repeat refine c_r ?_
  by_cases h0e : e = 0
  ·refine W_cond (t := !decide (e = 0)) (vr0) (fun h => by rw [decide_eq_true h0e] at h; cases h) ?_
   intro _
   repeat refine c_r ?_
   refine rg2 h3 hi1' ?_
   repeat refine c_r ?_
   refine ⟨m - 1, by omega, rfl, i + 1, by omega, vq0, (vq1 h0), hEA.trans (hA2.trans hA3), fun j hj hji => ?_⟩
   by_cases hj2 : j = i
   ·subst hj2; rw [hr]; exact he h0e
   ·exact hlow j hj (by omega)
  ·refine W_cond (t := !decide (e = 0)) (vr0) ?_ (fun h => by rw [decide_eq_false h0e] at h; cases h)
   intro _
   repeat (first | refine c_r ?_ | refine rg0 ?_)
   refine rt0 Tryz.ntmps55 ?_
   exact ⟨hEA.trans (hA2.trans hA3), false, rfl, fun h => by cases h⟩
 ·intro hge
  simp only [decide_eq_false_iff_not] at hge
  repeat (first | refine c_r ?_ | refine rg0 ?_)
  refine rt0 Tryz.ntmps55 ?_
  have hall : ∀ r ∈ R, checkN r.owner = 0 ∧ (∀ n ∈ r.dat.names, checkN n = 0) ∧ (leadT r.dat.ty → r.dat.names.length = 1) := fun r hr => by
   obtain ⟨j, hj, rfl⟩ := List.getElem_of_mem hr
   exact hlow j hj (by omega)
  exact ⟨hEA, true, rfl, fun _ => ⟨hRl, hRf, fun r hr => (hall r hr).1, fun r hr => (hall r hr).2.1, fun r hr => (hall r hr).2.2⟩⟩

theorem ZGood_ok {w0 w : World} (hE0 : Ext w0 w) {ov lv : Value} {o : Nm} {R : List RecL} (ho : Row w ov (o.map vs)) (hl : Rows 7 (RecAt w0) w lv R) :
  Fn Tryz.prog 16 #[ov, lv] w (fun v w' => Ext w w' ∧ ∃ b : Bool, v = .bool b ∧ (b = true → goodN o = true ∧ GoodRs R)) := by
 refine enter Tryz.func16 Tryz.ntmps16 rfl rfl ?_
 repeat refine c_r ?_
 refine rg0 ?_
 repeat refine c_r ?_
 cases hg : goodN o with
 | false =>
  refine rq ?_; intro gd K hgd hK
  have hg2 : ∀ n σ b, wantV gd n σ (some (2, b)) = boolIs (ev n σ (.tmp 7)) b := (fun n σ b => by rw [wantV_some, show gd 2 = some 7 from (by rw [hgd]; rfl)]; rfl)
  try simp (disch := first | omega | assumption | rfl) only [↓reduceIte, go_sem, Nat.reduceLT, Nat.reduceEqDiff, Nat.reduceSub]
  refine Fn.mono (NGood_ok w ov o ho) ?_
  rintro _ w1 ⟨rfl, hE1⟩
  rw [hg]
  try simp (disch := first | omega | assumption | rfl) only [↓reduceIte, go_sem, Nat.reduceLT, Nat.reduceEqDiff, Nat.reduceSub, ↓hg2]
  refine hK _ _ ?_; clear hK hgd; clear K; try clear gd
  repeat refine c_r ?_
  refine rt0 Tryz.ntmps16 ?_
  exact ⟨hE1, false, rfl, fun h => by cases h⟩
 | true =>
  refine rq ?_; intro gd K hgd hK
  have hg2 : ∀ n σ b, wantV gd n σ (some (2, b)) = boolIs (ev n σ (.tmp 7)) b := (fun n σ b => by rw [wantV_some, show gd 2 = some 7 from (by rw [hgd]; rfl)]; rfl)
  try simp (disch := first | omega | assumption | rfl) only [↓reduceIte, go_sem, Nat.reduceLT, Nat.reduceEqDiff, Nat.reduceSub]
  refine Fn.mono (NGood_ok w ov o ho) ?_
  rintro _ w1 ⟨rfl, hE1⟩
  rw [hg]
  try simp (disch := first | omega | assumption | rfl) only [↓reduceIte, go_sem, Nat.reduceLT, Nat.reduceEqDiff, Nat.reduceSub, ↓hg2]
  refine Fn.mono (RsGood_ok (hE0.trans hE1) (hl.ext hE1)) ?_
  rintro _ w2 ⟨hE2, b, rfl, hb⟩
  try simp (disch := first | omega | assumption | rfl) only [↓reduceIte, go_sem, Nat.reduceLT, Nat.reduceEqDiff, Nat.reduceSub, ↓hg2]
  refine hK _ _ ?_; clear hK hgd; clear K; try clear gd
  repeat refine c_r ?_
  refine rt0 Tryz.ntmps16 ?_
  exact ⟨hE1.trans hE2, b, rfl, fun h => ⟨rfl, hb h⟩⟩
end Go.Proofs.YtopbbjdembnfdaaGreat

namespace Go.Proofs.YtopbbjdembnfdaaGreat
open Go

def eqAll {α : Type} (p : α → α → Bool) : List α → List α → Bool
 | [], [] => true
 | x :: l, y :: m => p x y && eqAll p l m
 | _, _ => false
theorem eqAll_len {α : Type} {p : α → α → Bool} : ∀ {l m : List α}, l.length ≠ m.length → eqAll p l m = false
 | [], [], h => absurd rfl h
 | [], _ :: _, _ => rfl
 | _ :: _, [], _ => rfl
 | x :: l, y :: m, h => by
  simp only [eqAll]
  rw [eqAll_len (fun e => h (by rw [List.length_cons, List.length_cons, e])), Bool.and_false]
theorem eqAll_drop {α : Type} {p : α → α → Bool} {l m : List α} {i : Nat} (hl : i < l.length) (hm : i < m.length) : eqAll p (l.drop i) (m.drop i) = (p l[i] m[i] && eqAll p (l.drop (i + 1)) (m.drop (i + 1))) := by
 rw [List.drop_eq_getElem_cons hl, List.drop_eq_getElem_cons hm]; rfl
theorem eqAll_self {α : Type} {p : α → α → Bool} (h : ∀ x, p x x = true) : ∀ l : List α, eqAll p l l = true
 | [] => rfl
 | x :: l => by simp only [eqAll]; rw [h x, eqAll_self h l]; rfl
end Go.Proofs.YtopbbjdembnfdaaGreat

namespace Go.Proofs.YtopbbjdembnfdaaGreat.P_ed
open Go Go.Proofs.YtopbbjdembnfdaaGreat
set_option maxRecDepth 10000

theorem EqualFunc_ok {α : Type} {w : World} {C D : List Value → α → Prop} {uv vv : Value} {xs ys : List α} {g : FuncId} {p : α → α → Bool} (hC : Shape 5 C) (hD : Shape 5 D) (hx : Rows 5 C w uv xs) (hy : Rows 5 D w vv ys) (hcal : callable Tryz.prog g = true)
  (hcall : ∀ (A : World) (cs ds : List Value) (x y : α), Ext w A → x ∈ xs → y ∈ ys → C cs x → D ds y → Fn Tryz.prog g #[.agg cs.toArray, .agg ds.toArray] A (fun v A' => v = .bool (p x y) ∧ Ext A A')) (hxl : xs.length ≤ 1000000000) (hyl : ys.length ≤ 1000000000) :
  Fn Tryz.prog 79 #[uv, vv, .func (.func g) #[] #[]] w (fun v w' => v = .bool (eqAll p xs ys) ∧ Ext w w') := by
 obtain ⟨ax, cx, rfl, hcx, hgx⟩ := hx.open
 obtain ⟨ay, cy, rfl, hcy, hgy⟩ := hy.open
 refine enter Tryz.func79 Tryz.ntmps79 rfl rfl ?_
 repeat refine c_r ?_
 refine rg0 ?_
 repeat refine c_r ?_
 refine rg0 ?_
 repeat refine c_r ?_
 refine wc0 ?_ ?_
 ·intro hne
  simp only [Bool.not_eq_true', decide_eq_false_iff_not] at hne
  repeat (first | refine c_r ?_ | refine rg0 ?_)
  refine rt0 Tryz.ntmps79 ?_
  exact ⟨by rw [eqAll_len (by omega)], Keep.refl _ _⟩
 intro heq
 simp only [Bool.not_eq_false', decide_eq_true_eq] at heq
 have hlen : xs.length = ys.length := by omega
 repeat refine c_r ?_
 refine rg0 ?_
 repeat refine c_r ?_
 refine W_loop (fun m σ ds A => ds = [] ∧ ∃ (i : Nat), i + m = xs.length ∧ σ 17 = vi i ∧ σ 16 = vi xs.length ∧ σ 15 = .slice ax xs.length cx ∧ σ 1 = .slice ay ys.length cy ∧ σ 2 = .func (.func g) #[] #[] ∧ Ext w A ∧ eqAll p xs ys = eqAll p (xs.drop i) (ys.drop i)) xs.length ?_ ?_
 ·exact ⟨rfl, 0, by omega, vr0, vr0, vq0, vq0, vq0, Keep.refl _ _, rfl⟩
 rintro m σ ds A ⟨rfl, i, him, h17, h16, h15, h1, h2, hEA, hinv⟩
 repeat refine c_r ?_
 refine rg2 h17 h16 ?_
 repeat refine c_r ?_
 refine wc0 ?_ ?_
 ·intro hlt
  simp only [decide_eq_true_eq] at hlt
  have hix : i < xs.length := by omega
  have hiy : i < ys.length := by omega
  have hi0 : (0 : Int) ≤ (i : Int) := by omega
  have hi1 : (i : Int) < (xs.length : Int) := by omega
  have hi2 : (i : Int) < (ys.length : Int) := by omega
  have hi1' : (i : Int) + 1 = ((i + 1 : Nat) : Int) := by push_cast; rfl
  obtain ⟨cs, hcs, hCx⟩ := hgx i hix
  obtain ⟨es, hes, hDy⟩ := hgy i hiy
  obtain ⟨zx, rfl⟩ := Option.isSome_iff_exists.1 (cellsO_some hcs)
  obtain ⟨zy, rfl⟩ := Option.isSome_iff_exists.1 (cellsO_some hes)
  have d1 := cellsO_ext hEA hcs
  repeat refine c_r ?_
  refine rq ?_; intro gd K hgd hK
  try simp (disch := first | omega | assumption | rfl) only [↓reduceIte, go_sem, Nat.reduceLT, Nat.reduceEqDiff, Nat.reduceSub, h15, h17, hi0, hi1, d1]
  refine sv_all (P := Tryz.prog) (t := 59) (l := cs) (new_block A _) (hC.len hCx) (hC.ones hCx) (by rw [hC.len hCx]; rfl) rfl ?_
  intro A3 hs5 hB5 hk5
  try simp (disch := first | omega | assumption | rfl) only [↓reduceIte, go_sem, Nat.reduceLT, Nat.reduceEqDiff, Nat.reduceSub]
  refine hK _ _ ?_; clear hK hgd; clear K; try clear gd
  rw [new_size] at hs5
  have hE5 : Ext A A3 := Keep.to_ext (Ext.alloc A _) rfl (fun b hb => by omega) hk5
  clear hk5
  have d2 := cellsO_ext (hEA.trans hE5) hes
  repeat refine c_r ?_
  refine rq ?_; intro gd K hgd hK
  try simp (disch := first | omega | assumption | rfl) only [↓reduceIte, go_sem, Nat.reduceLT, Nat.reduceEqDiff, Nat.reduceSub, h1, hi0, hi2, d2]
  refine sv_all (P := Tryz.prog) (t := 59) (l := es) (new_block A3 _) (hD.len hDy) (hD.ones hDy) (by rw [hD.len hDy]; rfl) rfl ?_
  intro A4 hs6 hB6 hk6
  try simp (disch := first | omega | assumption | rfl) only [↓reduceIte, go_sem, Nat.reduceLT, Nat.reduceEqDiff, Nat.reduceSub]
  refine hK _ _ ?_; clear hK hgd; clear K; try clear gd
  rw [new_size] at hs6
  have hE6 : Ext A3 A4 := Keep.to_ext (Ext.alloc A3 _) rfl (fun b hb => by omega) hk6
  clear hk6
  have q1 := sv_cells (n := 5) (hE6.at hB5) (hC.len hCx).symm
  have q2 := sv_cells (n := 5) hB6 (hD.len hDy).symm
  have hst := eqAll_drop (p := p) hix hiy
  repeat refine c_r ?_
  refine rq ?_; intro gd K hgd hK
  try simp (disch := first | omega | assumption | rfl) only [↓reduceIte, go_sem, Nat.reduceLT, Nat.reduceEqDiff, Nat.reduceSub, h2, q1, q2]
  refine call_of hcal (Fn.mono (hcall A4 cs es xs[i] ys[i] ((hEA.trans hE5).trans hE6) (List.getElem_mem hix) (List.getElem_mem hiy) hCx hDy) ?_)
  rintro _ A5 ⟨rfl, hE7⟩
  try simp (disch := first | omega | assumption | rfl) only [↓reduceIte, go_sem, Nat.reduceLT, Nat.reduceEqDiff, Nat.reduceSub]
  refine hK _ _ ?_; clear hK hgd; clear K; try clear gd
  repeat refine c_r ?_
  refine wc0 ?_ ?_
  ·intro hf
   simp only [Bool.not_eq_true'] at hf
   repeat (first | refine c_r ?_ | refine rg0 ?_)
   refine rt0 Tryz.ntmps79 ?_
   exact ⟨by rw [hinv, hst, hf, Bool.false_and], ((hEA.trans hE5).trans hE6).trans hE7⟩
  ·intro ht
   simp only [Bool.not_eq_false'] at ht
   repeat refine c_r ?_
   refine rg2 h17 hi1' ?_
   repeat refine c_r ?_
   exact ⟨m - 1, by omega, rfl, i + 1, by omega, vq0, (vq1 h16), (vq1 h15), (vq1 h1), (vq1 h2), ((hEA.trans hE5).trans hE6).trans hE7, by rw [hinv, hst, ht, Bool.true_and]⟩
 ·intro hge
  simp only [decide_eq_false_iff_not] at hge
  have e1 : xs.drop i = [] := List.drop_eq_nil_of_le (by omega)
  have e2 : ys.drop i = [] := List.drop_eq_nil_of_le (by omega)
  repeat (first | refine c_r ?_ | refine rg0 ?_)
  refine rt0 Tryz.ntmps79 ?_
  exact ⟨by rw [hinv, e1, e2]; rfl, hEA⟩
end Go.Proofs.YtopbbjdembnfdaaGreat.P_ed

namespace Go.Proofs.YtopbbjdembnfdaaGreat.P_eg
open Go Go.Proofs.YtopbbjdembnfdaaGreat
set_option maxRecDepth 10000

theorem EqualFunc_ok {α : Type} {w : World} {C D : List Value → α → Prop} {uv vv : Value} {xs ys : List α} {g : FuncId} {p : α → α → Bool} (hC : Shape 2 C) (hD : Shape 2 D) (hx : Rows 2 C w uv xs) (hy : Rows 2 D w vv ys) (hcal : callable Tryz.prog g = true)
  (hcall : ∀ (A : World) (cs ds : List Value) (x y : α), Ext w A → x ∈ xs → y ∈ ys → C cs x → D ds y → Fn Tryz.prog g #[.agg cs.toArray, .agg ds.toArray] A (fun v A' => v = .bool (p x y) ∧ Ext A A')) (hxl : xs.length ≤ 1000000000) (hyl : ys.length ≤ 1000000000) :
  Fn Tryz.prog 81 #[uv, vv, .func (.func g) #[] #[]] w (fun v w' => v = .bool (eqAll p xs ys) ∧ Ext w w') := by
 obtain ⟨ax, cx, rfl, hcx, hgx⟩ := hx.open
 obtain ⟨ay, cy, rfl, hcy, hgy⟩ := hy.open
 refine enter Tryz.func81 Tryz.ntmps81 rfl rfl ?_
 repeat refine c_r ?_
 refine rg0 ?_
 repeat refine c_r ?_
 refine rg0 ?_
 repeat refine c_r ?_
 refine wc0 ?_ ?_
 ·intro hne
  simp only [Bool.not_eq_true', decide_eq_false_iff_not] at hne
  repeat (first | refine c_r ?_ | refine rg0 ?_)
  refine rt0 Tryz.ntmps81 ?_
  exact ⟨by rw [eqAll_len (by omega)], Keep.refl _ _⟩
 intro heq
 simp only [Bool.not_eq_false', decide_eq_true_eq] at heq
 have hlen : xs.length = ys.length := by omega
 repeat refine c_r ?_
 refine rg0 ?_
 repeat refine c_r ?_
 refine W_loop (fun m σ ds A => ds = [] ∧ ∃ (i : Nat), i + m = xs.length ∧ σ 17 = vi i ∧ σ 16 = vi xs.length ∧ σ 15 = .slice ax xs.length cx ∧ σ 1 = .slice ay ys.length cy ∧ σ 2 = .func (.func g) #[] #[] ∧ Ext w A ∧ eqAll p xs ys = eqAll p (xs.drop i) (ys.drop i)) xs.length ?_ ?_
 ·exact ⟨rfl, 0, by omega, vr0, vr0, vq0, vq0, vq0, Keep.refl _ _, rfl⟩
 rintro m σ ds A ⟨rfl, i, him, h17, h16, h15, h1, h2, hEA, hinv⟩
 repeat refine c_r ?_
 refine rg2 h17 h16 ?_
 repeat refine c_r ?_
 refine wc0 ?_ ?_
 ·intro hlt
  simp only [decide_eq_true_eq] at hlt
  have hix : i < xs.length := by omega
  have hiy : i < ys.length := by omega
  have hi0 : (0 : Int) ≤ (i : Int) := by omega
  have hi1 : (i : Int) < (xs.length : Int) := by omega
  have hi2 : (i : Int) < (ys.length : Int) := by omega
  have hi1' : (i : Int) + 1 = ((i + 1 : Nat) : Int) := by push_cast; rfl
  obtain ⟨cs, hcs, hCx⟩ := hgx i hix
  obtain ⟨es, hes, hDy⟩ := hgy i hiy
  obtain ⟨zx, rfl⟩ := Option.isSome_iff_exists.1 (cellsO_some hcs)
  obtain ⟨zy, rfl⟩ := Option.isSome_iff_exists.1 (cellsO_some hes)
  have d1 := cellsO_ext hEA hcs
  repeat refine c_r ?_
  refine rq ?_; intro gd K hgd hK
  try simp (disch := first | omega | assumption | rfl) only [↓reduceIte, go_sem, Nat.reduceLT, Nat.reduceEqDiff, Nat.reduceSub, h15, h17, hi0, hi1, d1]
  refine sv_all (P := Tryz.prog) (t := 112) (l := cs) (new_block A _) (hC.len hCx) (hC.ones hCx) (by rw [hC.len hCx]; rfl) rfl ?_
  intro A3 hs5 hB5 hk5
  try simp (disch := first | omega | assumption | rfl) only [↓reduceIte, go_sem, Nat.reduceLT, Nat.reduceEqDiff, Nat.reduceSub]
  refine hK _ _ ?_; clear hK hgd; clear K; try clear gd
  rw [new_size] at hs5
  have hE5 : Ext A A3 := Keep.to_ext (Ext.alloc A _) rfl (fun b hb => by omega) hk5
  clear hk5
  have d2 := cellsO_ext (hEA.trans hE5) hes
  repeat refine c_r ?_
  refine rq ?_; intro gd K hgd hK
  try simp (disch := first | omega | assumption | rfl) only [↓reduceIte, go_sem, Nat.reduceLT, Nat.reduceEqDiff, Nat.reduceSub, h1, hi0, hi2, d2]
  refine sv_all (P := Tryz.prog) (t := 112) (l := es) (new_block A3 _) (hD.len hDy) (hD.ones hDy) (by rw [hD.len hDy]; rfl) rfl ?_
  intro A4 hs6 hB6 hk6
  try simp (disch := first | omega | assumption | rfl) only [↓reduceIte, go_sem, Nat.reduceLT, Nat.reduceEqDiff, Nat.reduceSub]
  refine hK _ _ ?_; clear hK hgd; clear K; try clear gd
  rw [new_size] at hs6
  have hE6 : Ext A3 A4 := Keep.to_ext (Ext.alloc A3 _) rfl (fun b hb => by omega) hk6
  clear hk6
  have q1 := sv_cells (n := 2) (hE6.at hB5) (hC.len hCx).symm
  have q2 := sv_cells (n := 2) hB6 (hD.len hDy).symm
  have hst := eqAll_drop (p := p) hix hiy
  repeat refine c_r ?_
  refine rq ?_; intro gd K hgd hK
  try simp (disch := first | omega | assumption | rfl) only [↓reduceIte, go_sem, Nat.reduceLT, Nat.reduceEqDiff, Nat.reduceSub, h2, q1, q2]
  refine call_of hcal (Fn.mono (hcall A4 cs es xs[i] ys[i] ((hEA.trans hE5).trans hE6) (List.getElem_mem hix) (List.getElem_mem hiy) hCx hDy) ?_)
  rintro _ A5 ⟨rfl, hE7⟩
  try simp (disch := first | omega | assumption | rfl) only [↓reduceIte, go_sem, Nat.reduceLT, Nat.reduceEqDiff, Nat.reduceSub]
  refine hK _ _ ?_; clear hK hgd; clear K; try clear gd
  repeat refine c_r ?_
  refine wc0 ?_ ?_
  ·intro hf
   simp only [Bool.not_eq_true'] at hf
   repeat (first | refine c_r ?_ | refine rg0 ?_)
   refine rt0 Tryz.ntmps81 ?_
   exact ⟨by rw [hinv, hst, hf, Bool.false_and], ((hEA.trans hE5).trans hE6).trans hE7⟩
  ·intro ht
   simp only [Bool.not_eq_false'] at ht
   repeat refine c_r ?_
   refine rg2 h17 hi1' ?_
   repeat refine c_r ?_
   exact ⟨m - 1, by omega, rfl, i + 1, by omega, vq0, (vq1 h16), (vq1 h15), (vq1 h1), (vq1 h2), ((hEA.trans hE5).trans hE6).trans hE7, by rw [hinv, hst, ht, Bool.true_and]⟩
 ·intro hge
  simp only [decide_eq_false_iff_not] at hge
  have e1 : xs.drop i = [] := List.drop_eq_nil_of_le (by omega)
  have e2 : ys.drop i = [] := List.drop_eq_nil_of_le (by omega)
  repeat (first | refine c_r ?_ | refine rg0 ?_)
  refine rt0 Tryz.ntmps81 ?_
  exact ⟨by rw [hinv, e1, e2]; rfl, hEA⟩
end Go.Proofs.YtopbbjdembnfdaaGreat.P_eg

namespace Go.Proofs.YtopbbjdembnfdaaGreat
open Go
set_option maxRecDepth 10000

def sameD (a b : DatL) : Bool := decide (cmpD a b = 0)
def sameG (x y : Nm × List DatL) : Bool := decide (foldN x.1 = foldN y.1) && eqAll sameD x.2 y.2
def sameRes (a b : ResL) : Bool := decide (a.kind = b.kind) && (a.wild == b.wild && (decide (foldN a.name = foldN b.name) && (eqAll sameD a.data b.data && eqAll sameG a.glue b.glue)))
structure ResOk (r : ResL) : Prop where
 nm : NmS r.name
 dat : ∀ d ∈ r.data, DatOk d
 dl : r.data.length ≤ 1000000000
 gl : r.glue.length ≤ 1000000000
 g : ∀ x ∈ r.glue, NmS x.1 ∧ (∀ d ∈ x.2, DatOk d) ∧ x.2.length ≤ 1000000000

theorem GlC.cells {w0 w : World} {cs : List Value} {x : Nm × List DatL} (h : GlC w0 w cs x) : cs.length = 2 ∧ ∀ q ∈ cs, one q = true := by
 obtain ⟨hv, dv, rfl, ⟨a, c, rfl, _⟩, h2⟩ := h
 obtain ⟨a2, c2, rfl, _⟩ := h2.open
 refine ⟨rfl, fun q hq => ?_⟩
 simp at hq
 rcases hq with rfl | rfl <;> rfl
theorem glc_shape (w0 w : World) : Shape 2 (GlC w0 w) := ⟨fun h => h.cells.1, fun h => h.cells.2⟩

theorem SameDs_ok {w0 w : World} (hE0 : Ext w0 w) {uv vv : Value} {xs ys : List DatL} (hx : Rows 5 (DatAt w0) w uv xs) (hy : Rows 5 (DatAt w0) w vv ys) (hxo : ∀ d ∈ xs, DatOk d) (hyo : ∀ d ∈ ys, DatOk d) (hxl : xs.length ≤ 1000000000) (hyl : ys.length ≤ 1000000000) :
  Fn Tryz.prog 79 #[uv, vv, .func (.func 80) #[] #[]] w (fun v w' => v = .bool (eqAll sameD xs ys) ∧ Ext w w') :=
 P_ed.EqualFunc_ok (dat_shape w0) (dat_shape w0) hx hy rfl (fun A cs ds x y hE hxm hym hc hd => DSame_ok A cs ds x y (hc.ext (hE0.trans hE)) (hd.ext (hE0.trans hE)) (hxo x hxm) (hyo y hym)) hxl hyl

theorem SameG_ok {w0 A0 : World} (hE0 : Ext w0 A0) (A : World) (hEA : Ext A0 A) {cs ds : List Value} {x y : Nm × List DatL} (hc : GlC w0 A0 cs x) (hd : GlC w0 A0 ds y) (hx : NmS x.1 ∧ (∀ d ∈ x.2, DatOk d) ∧ x.2.length ≤ 1000000000) (hy : NmS y.1 ∧ (∀ d ∈ y.2, DatOk d) ∧ y.2.length ≤ 1000000000) :
  Fn Tryz.prog 82 #[.agg cs.toArray, .agg ds.toArray] A (fun v A' => v = .bool (sameG x y) ∧ Ext A A') := by
 obtain ⟨hv, dv, rfl, h1, h2⟩ := hc
 obtain ⟨hv2, dv2, rfl, g1, g2⟩ := hd
 refine enter Tryz.func82 Tryz.ntmps82 rfl rfl ?_
 repeat refine c_r ?_
 refine rg0 ?_
 repeat refine c_r ?_
 rw [new_size]
 refine W_alloc2 ?_
 intro w1 hE1 hs1 hA hB
 have p0 : cellO w1 (some ⟨A.heap.size, 0, Option.none⟩) = some hv := cellO_at hA rfl
 have p1 : cellO w1 (some ⟨A.heap.size, 1, Option.none⟩) = some dv := cellO_at hA rfl
 have q0 : cellO w1 (some ⟨A.heap.size + 1, 0, Option.none⟩) = some hv2 := cellO_at hB rfl
 have q1 : cellO w1 (some ⟨A.heap.size + 1, 1, Option.none⟩) = some dv2 := cellO_at hB rfl
 have hEw := (hE0.trans hEA).trans hE1
 have lx := hx.1.len
 have ly := hy.1.len
 refine rq ?_; intro gd K hgd hK
 have hg5 : ∀ n σ b, wantV gd n σ (some (5, b)) = boolIs (ev n σ (.tmp 10)) b := (fun n σ b => by rw [wantV_some, show gd 5 = some 10 from (by rw [hgd]; rfl)]; rfl)
 try simp (disch := first | omega | assumption | rfl) only [↓reduceIte, go_sem, Nat.reduceLT, Nat.reduceEqDiff, Nat.reduceSub, p0, q0, Nat.add_zero]
 refine Fn.mono (Same_ok _ _ _ _ _ (h1.ext hEw) (g1.ext hEw) hx.1.lb hy.1.lb (by omega) (by omega)) ?_
 rintro _ w2 ⟨rfl, hE2⟩
 have p1' := cellO_ext hE2 p1
 have q1' := cellO_ext hE2 q1
 by_cases hs : foldN x.1 = foldN y.1
 ·rw [decide_eq_true hs]
  try simp (disch := first | omega | assumption | rfl) only [↓reduceIte, go_sem, Nat.reduceLT, Nat.reduceEqDiff, Nat.reduceSub, p1', q1', Nat.zero_add, ↓hg5]
  refine Fn.mono (SameDs_ok (hEw.trans hE2) (h2.ext ((hEA.trans hE1).trans hE2)) (g2.ext ((hEA.trans hE1).trans hE2)) hx.2.1 hy.2.1 hx.2.2 hy.2.2) ?_
  rintro _ w3 ⟨rfl, hE3⟩
  try simp (disch := first | omega | assumption | rfl) only [↓reduceIte, go_sem, Nat.reduceLT, Nat.reduceEqDiff, Nat.reduceSub]
  refine hK _ _ ?_; clear hK hgd; clear K; try clear gd
  repeat refine c_r ?_
  refine rt0 Tryz.ntmps82 ?_
  exact ⟨by unfold sameG; rw [decide_eq_true hs, Bool.true_and], (hE1.trans hE2).trans hE3⟩
 ·rw [decide_eq_false hs]
  try simp (disch := first | omega | assumption | rfl) only [↓reduceIte, go_sem, Nat.reduceLT, Nat.reduceEqDiff, Nat.reduceSub, ↓hg5]
  refine hK _ _ ?_; clear hK hgd; clear K; try clear gd
  repeat refine c_r ?_
  refine rt0 Tryz.ntmps82 ?_
  exact ⟨by unfold sameG; rw [decide_eq_false hs, Bool.false_and], hE1.trans hE2⟩

theorem SameGs_ok {w0 w : World} (hE0 : Ext w0 w) {uv vv : Value} {xs ys : List (Nm × List DatL)} (hx : Rows 2 (GlC w0 w) w uv xs) (hy : Rows 2 (GlC w0 w) w vv ys) (hxo : ∀ x ∈ xs, NmS x.1 ∧ (∀ d ∈ x.2, DatOk d) ∧ x.2.length ≤ 1000000000) (hyo : ∀ x ∈ ys, NmS x.1 ∧ (∀ d ∈ x.2, DatOk d) ∧ x.2.length ≤ 1000000000) (hxl : xs.length ≤ 1000000000) (hyl : ys.length ≤ 1000000000) :
  Fn Tryz.prog 81 #[uv, vv, .func (.func 82) #[] #[]] w (fun v w' => v = .bool (eqAll sameG xs ys) ∧ Ext w w') :=
 P_eg.EqualFunc_ok (glc_shape w0 w) (glc_shape w0 w) hx hy rfl (fun A cs ds x y hE hxm hym hc hd => SameG_ok hE0 A hE hc hd (hxo x hxm) (hyo y hym)) hxl hyl

theorem LkSame_ok {w0 w : World} (hE0 : Ext w0 w) {ca cb : List Value} {a b : ResL} (ha : ResAt w0 w ca a) (hb : ResAt w0 w cb b) (oa : ResOk a) (ob : ResOk b) :
  Fn Tryz.prog 25 #[.agg ca.toArray, .agg cb.toArray] w (fun v w' => v = .bool (sameRes a b) ∧ Ext w w') := by
 obtain ⟨dv, nv, gv, rfl, a1, a2, a3⟩ := ha.ex
 obtain ⟨dv2, nv2, gv2, rfl, b1, b2, b3⟩ := hb.ex
 refine enter Tryz.func25 Tryz.ntmps25 rfl rfl ?_
 repeat refine c_r ?_
 refine rg0 ?_
 repeat refine c_r ?_
 rw [new_size]
 refine W_alloc2 ?_
 intro w1 hE1 hs1 hA hB
 have p0 : cellO w1 (some ⟨w.heap.size, 0, Option.none⟩) = some (vi a.kind) := cellO_at hA rfl
 have p3 : cellO w1 (some ⟨w.heap.size, 3, Option.none⟩) = some (.bool a.wild) := cellO_at hA rfl
 have p2 : cellO w1 (some ⟨w.heap.size, 2, Option.none⟩) = some nv := cellO_at hA rfl
 have q0 : cellO w1 (some ⟨w.heap.size + 1, 0, Option.none⟩) = some (vi b.kind) := cellO_at hB rfl
 have q3 : cellO w1 (some ⟨w.heap.size + 1, 3, Option.none⟩) = some (.bool b.wild) := cellO_at hB rfl
 have q2 : cellO w1 (some ⟨w.heap.size + 1, 2, Option.none⟩) = some nv2 := cellO_at hB rfl
 have lx := oa.nm.len
 have ly := ob.nm.len
 by_cases hk : a.kind = b.kind
 ·by_cases hw : (a.wild == b.wild) = true
  ·refine rq ?_; intro gd K hgd hK
   have hg5 : ∀ n σ b, wantV gd n σ (some (5, b)) = boolIs (ev n σ (.tmp 10)) b := (fun n σ b => by rw [wantV_some, show gd 5 = some 10 from (by rw [hgd]; rfl)]; rfl); have hg12 : ∀ n σ b, wantV gd n σ (some (12, b)) = boolIs (ev n σ (.tmp 17)) b := (fun n σ b => by rw [wantV_some, show gd 12 = some 17 from (by rw [hgd]; rfl)]; rfl); have hg19 : ∀ n σ b, wantV gd n σ (some (19, b)) = boolIs (ev n σ (.tmp 24)) b := (fun n σ b => by rw [wantV_some, show gd 19 = some 24 from (by rw [hgd]; rfl)]; rfl); have hg26 : ∀ n σ b, wantV gd n σ (some (26, b)) = boolIs (ev n σ (.tmp 31)) b := (fun n σ b => by rw [wantV_some, show gd 26 = some 31 from (by rw [hgd]; rfl)]; rfl)
   try simp (disch := first | omega | assumption | rfl) only [↓reduceIte, go_sem, Nat.reduceLT, Nat.reduceEqDiff, Nat.reduceSub, p0, q0, p3, q3, p2, q2, Nat.add_zero, Nat.zero_add, decide_eq_true hk, hw, ↓hg5, ↓hg12, ↓hg19, ↓hg26]
   refine Fn.mono (Same_ok _ _ _ _ _ (a2.ext hE1) (b2.ext hE1) oa.nm.lb ob.nm.lb (by omega) (by omega)) ?_
   rintro _ w2 ⟨rfl, hE2⟩
   have hE12 := hE1.trans hE2
   have p1 : cellO w2 (some ⟨w.heap.size, 1, Option.none⟩) = some dv := cellO_at (hE2.at hA) rfl
   have q1 : cellO w2 (some ⟨w.heap.size + 1, 1, Option.none⟩) = some dv2 := cellO_at (hE2.at hB) rfl
   by_cases hn : foldN a.name = foldN b.name
   ·rw [decide_eq_true hn]
    try simp (disch := first | omega | assumption | rfl) only [↓reduceIte, go_sem, Nat.reduceLT, Nat.reduceEqDiff, Nat.reduceSub, p1, q1, Nat.zero_add, ↓hg5, ↓hg12, ↓hg19, ↓hg26]
    refine Fn.mono (SameDs_ok (hE0.trans hE12) (a1.ext hE12) (b1.ext hE12) oa.dat ob.dat oa.dl ob.dl) ?_
    rintro _ w3 ⟨rfl, hE3⟩
    have hE13 := hE12.trans hE3
    have p4 : cellO w3 (some ⟨w.heap.size, 4, Option.none⟩) = some gv := cellO_at (Ext.at (hE2.trans hE3) hA) rfl
    have q4 : cellO w3 (some ⟨w.heap.size + 1, 4, Option.none⟩) = some gv2 := cellO_at (Ext.at (hE2.trans hE3) hB) rfl
    by_cases hd : eqAll sameD a.data b.data = true
    ·rw [hd]
     try simp (disch := first | omega | assumption | rfl) only [↓reduceIte, go_sem, Nat.reduceLT, Nat.reduceEqDiff, Nat.reduceSub, p4, q4, Nat.zero_add, ↓hg5, ↓hg12, ↓hg19, ↓hg26]
     refine Fn.mono (SameGs_ok (w0 := w0) (hE0.trans hE13) ((a3.ext hE13).to fun cs x hx => ?_) ((b3.ext hE13).to fun cs x hx => ?_) oa.g ob.g oa.gl ob.gl) ?_
     ·obtain ⟨hv, dv, e, g1, g2⟩ := hx
      exact ⟨hv, dv, e, g1, g2.ext hE13⟩
     ·obtain ⟨hv, dv, e, g1, g2⟩ := hx
      exact ⟨hv, dv, e, g1, g2.ext hE13⟩
     rintro _ w4 ⟨rfl, hE4⟩
     try simp (disch := first | omega | assumption | rfl) only [↓reduceIte, go_sem, Nat.reduceLT, Nat.reduceEqDiff, Nat.reduceSub]
     refine hK _ _ ?_; clear hK hgd; clear K; try clear gd
     repeat refine c_r ?_
     refine rt0 Tryz.ntmps25 ?_
     exact ⟨by unfold sameRes; rw [decide_eq_true hk, hw, decide_eq_true hn, hd, Bool.true_and, Bool.true_and, Bool.true_and, Bool.true_and], hE13.trans hE4⟩
    ·have hd' : eqAll sameD a.data b.data = false := by simpa using hd
     rw [hd']
     try simp (disch := first | omega | assumption | rfl) only [↓reduceIte, go_sem, Nat.reduceLT, Nat.reduceEqDiff, Nat.reduceSub, ↓hg5, ↓hg12, ↓hg19, ↓hg26]
     refine hK _ _ ?_; clear hK hgd; clear K; try clear gd
     repeat refine c_r ?_
     refine rt0 Tryz.ntmps25 ?_
     exact ⟨by unfold sameRes; rw [decide_eq_true hk, hw, decide_eq_true hn, hd', Bool.true_and, Bool.true_and, Bool.true_and, Bool.false_and], hE13⟩
   ·rw [decide_eq_false hn]
    try simp (disch := first | omega | assumption | rfl) only [↓reduceIte, go_sem, Nat.reduceLT, Nat.reduceEqDiff, Nat.reduceSub, ↓hg5, ↓hg12, ↓hg19, ↓hg26]
    refine hK _ _ ?_; clear hK hgd; clear K; try clear gd
    repeat refine c_r ?_
    refine rt0 Tryz.ntmps25 ?_
    exact ⟨by unfold sameRes; rw [decide_eq_true hk, hw, decide_eq_false hn, Bool.true_and, Bool.true_and, Bool.false_and], hE12⟩
  ·have hw' : (a.wild == b.wild) = false := by simpa using hw
   refine rq ?_; intro gd K hgd hK
   have hg5 : ∀ n σ b, wantV gd n σ (some (5, b)) = boolIs (ev n σ (.tmp 10)) b := (fun n σ b => by rw [wantV_some, show gd 5 = some 10 from (by rw [hgd]; rfl)]; rfl); have hg12 : ∀ n σ b, wantV gd n σ (some (12, b)) = boolIs (ev n σ (.tmp 17)) b := (fun n σ b => by rw [wantV_some, show gd 12 = some 17 from (by rw [hgd]; rfl)]; rfl); have hg19 : ∀ n σ b, wantV gd n σ (some (19, b)) = boolIs (ev n σ (.tmp 24)) b := (fun n σ b => by rw [wantV_some, show gd 19 = some 24 from (by rw [hgd]; rfl)]; rfl); have hg26 : ∀ n σ b, wantV gd n σ (some (26, b)) = boolIs (ev n σ (.tmp 31)) b := (fun n σ b => by rw [wantV_some, show gd 26 = some 31 from (by rw [hgd]; rfl)]; rfl)
   try simp (disch := first | omega | assumption | rfl) only [↓reduceIte, go_sem, Nat.reduceLT, Nat.reduceEqDiff, Nat.reduceSub, p0, q0, p3, q3, Nat.add_zero, Nat.zero_add, decide_eq_true hk, hw', ↓hg5, ↓hg12, ↓hg19, ↓hg26]
   refine hK _ _ ?_; clear hK hgd; clear K; try clear gd
   repeat refine c_r ?_
   refine rt0 Tryz.ntmps25 ?_
   exact ⟨by unfold sameRes; rw [decide_eq_true hk, hw', Bool.true_and, Bool.false_and], hE1⟩
 ·refine rq ?_; intro gd K hgd hK
  have hg5 : ∀ n σ b, wantV gd n σ (some (5, b)) = boolIs (ev n σ (.tmp 10)) b := (fun n σ b => by rw [wantV_some, show gd 5 = some 10 from (by rw [hgd]; rfl)]; rfl); have hg12 : ∀ n σ b, wantV gd n σ (some (12, b)) = boolIs (ev n σ (.tmp 17)) b := (fun n σ b => by rw [wantV_some, show gd 12 = some 17 from (by rw [hgd]; rfl)]; rfl); have hg19 : ∀ n σ b, wantV gd n σ (some (19, b)) = boolIs (ev n σ (.tmp 24)) b := (fun n σ b => by rw [wantV_some, show gd 19 = some 24 from (by rw [hgd]; rfl)]; rfl); have hg26 : ∀ n σ b, wantV gd n σ (some (26, b)) = boolIs (ev n σ (.tmp 31)) b := (fun n σ b => by rw [wantV_some, show gd 26 = some 31 from (by rw [hgd]; rfl)]; rfl)
  try simp (disch := first | omega | assumption | rfl) only [↓reduceIte, go_sem, Nat.reduceLT, Nat.reduceEqDiff, Nat.reduceSub, p0, q0, Nat.add_zero, Nat.zero_add, decide_eq_false hk, ↓hg5, ↓hg12, ↓hg19, ↓hg26]
  refine hK _ _ ?_; clear hK hgd; clear K; try clear gd
  repeat refine c_r ?_
  refine rt0 Tryz.ntmps25 ?_
  exact ⟨by unfold sameRes; rw [decide_eq_false hk, Bool.false_and], hE1⟩
end Go.Proofs.YtopbbjdembnfdaaGreat

namespace Go.Proofs.YtopbbjdembnfdaaGreat
open Go
set_option maxRecDepth 10000

theorem RSameDatas_ok {w0 w : World} (hE0 : Ext w0 w) {uv vv : Value} {xs ys : List DatL} (hx : Rows 5 (DatAt w0) w uv xs) (hy : Rows 5 (DatAt w0) w vv ys) (hxo : ∀ d ∈ xs, DatOk d) (hyo : ∀ d ∈ ys, DatOk d) (hxl : xs.length ≤ 1000000000) (hyl : ys.length ≤ 1000000000) :
  Fn Tryz.prog 77 #[uv, vv] w (fun v w' => v = .bool (eqAll sameD xs ys) ∧ Ext w w') := by
 obtain ⟨ax, cx, rfl, hcx, hgx⟩ := hx.open
 obtain ⟨ay, cy, rfl, hcy, hgy⟩ := hy.open
 refine enter Tryz.func77 Tryz.ntmps77 rfl rfl ?_
 repeat refine c_r ?_
 refine rg0 ?_
 repeat refine c_r ?_
 refine rg0 ?_
 repeat refine c_r ?_
 refine wc0 ?_ ?_
 ·intro hne
  simp only [Bool.not_eq_true', decide_eq_false_iff_not] at hne
  repeat (first | refine c_r ?_ | refine rg0 ?_)
  refine rt0 Tryz.ntmps77 ?_
  exact ⟨by rw [eqAll_len (by omega)], Keep.refl _ _⟩
 intro heq
 simp only [Bool.not_eq_false', decide_eq_true_eq] at heq
 repeat refine c_r ?_
 refine rg0 ?_
 repeat refine c_r ?_
 refine W_loop (fun m σ ds A => ds = [] ∧ ∃ (i : Nat), i + m = xs.length ∧ σ 5 = vi i ∧ σ 0 = .slice ax xs.length cx ∧ σ 1 = .slice ay ys.length cy ∧ Ext w A ∧ eqAll sameD xs ys = eqAll sameD (xs.drop i) (ys.drop i)) xs.length ?_ ?_
 ·exact ⟨rfl, 0, by omega, vr0, vq0, vq0, Keep.refl _ _, rfl⟩
 rintro m σ ds A ⟨rfl, i, him, h5, h0, h1, hEA, hinv⟩
 repeat refine c_r ?_
 refine rg2 h5 h0 ?_
 repeat refine c_r ?_
 refine wc0 ?_ ?_
 ·intro hlt
  simp only [decide_eq_true_eq] at hlt
  have hix : i < xs.length := by omega
  have hiy : i < ys.length := by omega
  have hi0 : (0 : Int) ≤ (i : Int) := by omega
  have hi1 : (i : Int) < (xs.length : Int) := by omega
  have hi2 : (i : Int) < (ys.length : Int) := by omega
  have hi1' : (i : Int) + 1 = ((i + 1 : Nat) : Int) := by push_cast; rfl
  obtain ⟨cs, hcs, hCx⟩ := hgx i hix
  obtain ⟨es, hes, hDy⟩ := hgy i hiy
  obtain ⟨zx, rfl⟩ := Option.isSome_iff_exists.1 (cellsO_some hcs)
  obtain ⟨zy, rfl⟩ := Option.isSome_iff_exists.1 (cellsO_some hes)
  have hst := eqAll_drop (p := sameD) hix hiy
  repeat refine c_r ?_
  refine W_drw (fun _ => false) [(0, true), (1, true), (2, true), (3, true), (4, true), (5, true), (6, true), (7, true), (8, false), (9, true)] NoS mixed (by kernel_rfl) ?_; intro gd K x hgd hx hxe hK; clear hxe
  have d1 := cellsO_ext (hEA.trans hx) hcs
  have d2 := cellsO_ext (hEA.trans hx) hes
  simp (disch := first | omega | assumption | rfl) only [↓reduceIte, go_sem, Nat.reduceLT, Nat.reduceEqDiff, Nat.reduceSub, h0, h1, h5, hi0, hi1, hi2, d1, d2]
  refine Fn.mono (RSameData_ok x cs es xs[i] ys[i] (hCx.ext (hE0.trans (hEA.trans hx))) (hDy.ext (hE0.trans (hEA.trans hx))) (hxo _ (List.getElem_mem hix)) (hyo _ (List.getElem_mem hiy))) ?_
  rintro _ x1 ⟨rfl, hx1⟩
  refine ⟨.inr hx1, ?_⟩
  simp (disch := first | omega | assumption | rfl) only [↓reduceIte, go_sem, Nat.reduceLT, Nat.reduceEqDiff, Nat.reduceSub]
  refine hK _ _ ?_; clear hK hgd; clear K; try clear gd
  have hEx := (hEA.trans hx).trans hx1
  repeat refine c_r ?_
  refine wc0 ?_ ?_
  ·intro hf
   simp only [Bool.not_eq_true'] at hf
   have hf' : sameD xs[i] ys[i] = false := hf
   repeat (first | refine c_r ?_ | refine rg0 ?_)
   refine rt0 Tryz.ntmps77 ?_
   exact ⟨by rw [hinv, hst, hf', Bool.false_and], hEx⟩
  ·intro ht
   simp only [Bool.not_eq_false'] at ht
   have ht' : sameD xs[i] ys[i] = true := ht
   repeat refine c_r ?_
   refine rg2 h5 hi1' ?_
   repeat refine c_r ?_
   exact ⟨m - 1, by omega, rfl, i + 1, by omega, vq0, (vq1 h0), (vq1 h1), hEx, by rw [hinv, hst, ht', Bool.true_and]⟩
 ·intro hge
  simp only [decide_eq_false_iff_not] at hge
  have e1 : xs.drop i = [] := List.drop_eq_nil_of_le (by omega)
  have e2 : ys.drop i = [] := List.drop_eq_nil_of_le (by omega)
  repeat (first | refine c_r ?_ | refine rg0 ?_)
  refine rt0 Tryz.ntmps77 ?_
  exact ⟨by rw [hinv, e1, e2]; rfl, hEA⟩

def preRes (a b : ResL) : Bool := decide (a.kind = b.kind) && (a.wild == b.wild && (decide (foldN a.name = foldN b.name) && (eqAll sameD a.data b.data && decide (a.glue.length = b.glue.length))))

theorem RSameResult_ok {w0 w : World} (hE0 : Ext w0 w) {ca cb : List Value} {a b : ResL} (ha : ResAt w0 w ca a) (hb : ResAt w0 w cb b) (oa : ResOk a) (ob : ResOk b) :
  Fn Tryz.prog 23 #[.agg ca.toArray, .agg cb.toArray] w (fun v w' => v = .bool (sameRes a b) ∧ Ext w w') := by
 obtain ⟨dv, nv, gv, rfl, a1, a2, a3⟩ := ha.ex
 obtain ⟨dv2, nv2, gv2, rfl, b1, b2, b3⟩ := hb.ex
 refine enter Tryz.func23 Tryz.ntmps23 rfl rfl ?_
 repeat refine c_r ?_
 refine rg0 ?_
 repeat refine c_r ?_
 rw [new_size]
 refine W_alloc2 ?_
 intro w1 hE1 hs1 hA hB
 obtain ⟨ag, cg, hgv, hcg, hgg⟩ := a3.open
 obtain ⟨ag2, cg2, hgv2, hcg2, hgg2⟩ := b3.open
 have p0 : cellO w1 (some ⟨w.heap.size, 0, Option.none⟩) = some (vi a.kind) := cellO_at hA rfl
 have p3 : cellO w1 (some ⟨w.heap.size, 3, Option.none⟩) = some (.bool a.wild) := cellO_at hA rfl
 have p2 : cellO w1 (some ⟨w.heap.size, 2, Option.none⟩) = some nv := cellO_at hA rfl
 have q0 : cellO w1 (some ⟨w.heap.size + 1, 0, Option.none⟩) = some (vi b.kind) := cellO_at hB rfl
 have q3 : cellO w1 (some ⟨w.heap.size + 1, 3, Option.none⟩) = some (.bool b.wild) := cellO_at hB rfl
 have q2 : cellO w1 (some ⟨w.heap.size + 1, 2, Option.none⟩) = some nv2 := cellO_at hB rfl
 have lx := oa.nm.len
 have ly := ob.nm.len
 refine W_mono (Q := fun e σ' ds' v' => e = .normal ∧ ds' = [] ∧ σ' 2 = .pointer (some ⟨w.heap.size, 0, Option.none⟩) ∧ σ' 3 = .pointer (some ⟨w.heap.size + 1, 0, Option.none⟩) ∧ Ext w1 v' ∧ σ' 42 = .bool (!preRes a b)) ?_ ?_
 ·by_cases hk : a.kind = b.kind
  ·by_cases hw : (a.wild == b.wild) = true
   ·refine rq ?_; intro gd K hgd hK
    have hg5 : ∀ n σ b, wantV gd n σ (some (5, b)) = boolIs (ev n σ (.tmp 11)) b := (fun n σ b => by rw [wantV_some, show gd 5 = some 11 from (by rw [hgd]; rfl)]; rfl); have hg12 : ∀ n σ b, wantV gd n σ (some (12, b)) = boolIs (ev n σ (.tmp 18)) b := (fun n σ b => by rw [wantV_some, show gd 12 = some 18 from (by rw [hgd]; rfl)]; rfl); have hg20 : ∀ n σ b, wantV gd n σ (some (20, b)) = boolIs (ev n σ (.tmp 26)) b := (fun n σ b => by rw [wantV_some, show gd 20 = some 26 from (by rw [hgd]; rfl)]; rfl); have hg28 : ∀ n σ b, wantV gd n σ (some (28, b)) = boolIs (ev n σ (.tmp 34)) b := (fun n σ b => by rw [wantV_some, show gd 28 = some 34 from (by rw [hgd]; rfl)]; rfl)
    try simp (disch := first | omega | assumption | rfl) only [↓reduceIte, go_sem, Nat.reduceLT, Nat.reduceEqDiff, Nat.reduceSub, p0, q0, p3, q3, p2, q2, Nat.add_zero, Nat.zero_add, decide_eq_true hk, hw, ↓hg5, ↓hg12, ↓hg20, ↓hg28]
    refine Fn.mono (RSame_ok _ _ _ _ _ (a2.ext hE1) (b2.ext hE1) oa.nm.lb ob.nm.lb (by omega) (by omega)) ?_
    rintro _ w2 ⟨rfl, hE2⟩
    have hE12 := hE1.trans hE2
    have p1 : cellO w2 (some ⟨w.heap.size, 1, Option.none⟩) = some dv := cellO_at (hE2.at hA) rfl
    have q1 : cellO w2 (some ⟨w.heap.size + 1, 1, Option.none⟩) = some dv2 := cellO_at (hE2.at hB) rfl
    by_cases hn : foldN a.name = foldN b.name
    ·rw [decide_eq_true hn]
     try simp (disch := first | omega | assumption | rfl) only [↓reduceIte, go_sem, Nat.reduceLT, Nat.reduceEqDiff, Nat.reduceSub, p1, q1, Nat.zero_add, ↓hg5, ↓hg12, ↓hg20, ↓hg28]
     refine Fn.mono (RSameDatas_ok (hE0.trans hE12) (a1.ext hE12) (b1.ext hE12) oa.dat ob.dat oa.dl ob.dl) ?_
     rintro _ w3 ⟨rfl, hE3⟩
     have p4 : cellO w3 (some ⟨w.heap.size, 4, Option.none⟩) = some gv := cellO_at (Ext.at (hE2.trans hE3) hA) rfl
     have q4 : cellO w3 (some ⟨w.heap.size + 1, 4, Option.none⟩) = some gv2 := cellO_at (Ext.at (hE2.trans hE3) hB) rfl
     rw [hgv] at p4
     rw [hgv2] at q4
     by_cases hd : eqAll sameD a.data b.data = true
     ·rw [hd]
      try simp (disch := first | omega | assumption | rfl) only [↓reduceIte, go_sem, Nat.reduceLT, Nat.reduceEqDiff, Nat.reduceSub, p4, q4, Nat.zero_add, ↓hg5, ↓hg12, ↓hg20, ↓hg28]
      refine hK _ _ ?_; clear hK hgd; clear K; try clear gd
      refine ⟨rfl, rfl, vq0, vq0, hE2.trans hE3, ?_⟩
      rw [show preRes a b = decide ((a.glue.length : Int) = (b.glue.length : Int)) from by unfold preRes; rw [decide_eq_true hk, hw, decide_eq_true hn, hd, Bool.true_and, Bool.true_and, Bool.true_and, Bool.true_and]; exact decide_eq_decide.2 ⟨fun h => by omega, fun h => by omega⟩]
      first | (simp only [↓reduceIte, go_sem, Nat.reduceLT, Nat.reduceEqDiff, Nat.reduceSub]; done) | (simp only [↓reduceIte, go_sem, Nat.reduceLT, Nat.reduceEqDiff, Nat.reduceSub]; rfl)
     ·have hd' : eqAll sameD a.data b.data = false := by simpa using hd
      rw [hd']
      try simp (disch := first | omega | assumption | rfl) only [↓reduceIte, go_sem, Nat.reduceLT, Nat.reduceEqDiff, Nat.reduceSub, ↓hg5, ↓hg12, ↓hg20, ↓hg28]
      refine hK _ _ ?_; clear hK hgd; clear K; try clear gd
      refine ⟨rfl, rfl, vq0, vq0, hE2.trans hE3, ?_⟩
      rw [show preRes a b = false from by unfold preRes; rw [decide_eq_true hk, hw, decide_eq_true hn, hd', Bool.true_and, Bool.true_and, Bool.true_and, Bool.false_and]]
      first | (simp only [↓reduceIte, go_sem, Nat.reduceLT, Nat.reduceEqDiff, Nat.reduceSub]; done) | (simp only [↓reduceIte, go_sem, Nat.reduceLT, Nat.reduceEqDiff, Nat.reduceSub]; rfl)
    ·rw [decide_eq_false hn]
     try simp (disch := first | omega | assumption | rfl) only [↓reduceIte, go_sem, Nat.reduceLT, Nat.reduceEqDiff, Nat.reduceSub, ↓hg5, ↓hg12, ↓hg20, ↓hg28]
     refine hK _ _ ?_; clear hK hgd; clear K; try clear gd
     refine ⟨rfl, rfl, vq0, vq0, hE2, ?_⟩
     rw [show preRes a b = false from by unfold preRes; rw [decide_eq_true hk, hw, decide_eq_false hn, Bool.true_and, Bool.true_and, Bool.false_and]]
     first | (simp only [↓reduceIte, go_sem, Nat.reduceLT, Nat.reduceEqDiff, Nat.reduceSub]; done) | (simp only [↓reduceIte, go_sem, Nat.reduceLT, Nat.reduceEqDiff, Nat.reduceSub]; rfl)
   ·have hw' : (a.wild == b.wild) = false := by simpa using hw
    refine rq ?_; intro gd K hgd hK
    have hg5 : ∀ n σ b, wantV gd n σ (some (5, b)) = boolIs (ev n σ (.tmp 11)) b := (fun n σ b => by rw [wantV_some, show gd 5 = some 11 from (by rw [hgd]; rfl)]; rfl); have hg12 : ∀ n σ b, wantV gd n σ (some (12, b)) = boolIs (ev n σ (.tmp 18)) b := (fun n σ b => by rw [wantV_some, show gd 12 = some 18 from (by rw [hgd]; rfl)]; rfl); have hg20 : ∀ n σ b, wantV gd n σ (some (20, b)) = boolIs (ev n σ (.tmp 26)) b := (fun n σ b => by rw [wantV_some, show gd 20 = some 26 from (by rw [hgd]; rfl)]; rfl); have hg28 : ∀ n σ b, wantV gd n σ (some (28, b)) = boolIs (ev n σ (.tmp 34)) b := (fun n σ b => by rw [wantV_some, show gd 28 = some 34 from (by rw [hgd]; rfl)]; rfl)
    try simp (disch := first | omega | assumption | rfl) only [↓reduceIte, go_sem, Nat.reduceLT, Nat.reduceEqDiff, Nat.reduceSub, p0, q0, p3, q3, Nat.add_zero, Nat.zero_add, decide_eq_true hk, hw', ↓hg5, ↓hg12, ↓hg20, ↓hg28]
    refine hK _ _ ?_; clear hK hgd; clear K; try clear gd
    refine ⟨rfl, rfl, vq0, vq0, Keep.refl _ _, ?_⟩
    rw [show preRes a b = false from by unfold preRes; rw [decide_eq_true hk, hw', Bool.true_and, Bool.false_and]]
    first | (simp only [↓reduceIte, go_sem, Nat.reduceLT, Nat.reduceEqDiff, Nat.reduceSub]; done) | (simp only [↓reduceIte, go_sem, Nat.reduceLT, Nat.reduceEqDiff, Nat.reduceSub]; rfl)
  ·refine rq ?_; intro gd K hgd hK
   have hg5 : ∀ n σ b, wantV gd n σ (some (5, b)) = boolIs (ev n σ (.tmp 11)) b := (fun n σ b => by rw [wantV_some, show gd 5 = some 11 from (by rw [hgd]; rfl)]; rfl); have hg12 : ∀ n σ b, wantV gd n σ (some (12, b)) = boolIs (ev n σ (.tmp 18)) b := (fun n σ b => by rw [wantV_some, show gd 12 = some 18 from (by rw [hgd]; rfl)]; rfl); have hg20 : ∀ n σ b, wantV gd n σ (some (20, b)) = boolIs (ev n σ (.tmp 26)) b := (fun n σ b => by rw [wantV_some, show gd 20 = some 26 from (by rw [hgd]; rfl)]; rfl); have hg28 : ∀ n σ b, wantV gd n σ (some (28, b)) = boolIs (ev n σ (.tmp 34)) b := (fun n σ b => by rw [wantV_some, show gd 28 = some 34 from (by rw [hgd]; rfl)]; rfl)
   try simp (disch := first | omega | assumption | rfl) only [↓reduceIte, go_sem, Nat.reduceLT, Nat.reduceEqDiff, Nat.reduceSub, p0, q0, Nat.add_zero, Nat.zero_add, decide_eq_false hk, ↓hg5, ↓hg12, ↓hg20, ↓hg28]
   refine hK _ _ ?_; clear hK hgd; clear K; try clear gd
   refine ⟨rfl, rfl, vq0, vq0, Keep.refl _ _, ?_⟩
   rw [show preRes a b = false from by unfold preRes; rw [decide_eq_false hk, Bool.false_and]]
   first | (simp only [↓reduceIte, go_sem, Nat.reduceLT, Nat.reduceEqDiff, Nat.reduceSub]; done) | (simp only [↓reduceIte, go_sem, Nat.reduceLT, Nat.reduceEqDiff, Nat.reduceSub]; rfl)
 rintro _ σ1 _ v1 ⟨rfl, rfl, h2, h3, hE2, h42⟩
 have hEw := hE1.trans hE2
 obtain ⟨cnd, hcnd⟩ : ∃ cnd, preRes a b = cnd := ⟨_, rfl⟩
 rw [hcnd] at h42
 repeat refine c_r ?_
 refine W_cond (t := !cnd) ((vq1 h42)) ?_ ?_
 ·intro hc
  have hc' : cnd = false := by simpa using hc
  rw [hc'] at hcnd
  unfold preRes at hcnd
  repeat (first | refine c_r ?_ | refine rg0 ?_)
  refine rt0 Tryz.ntmps23 ?_
  refine ⟨?_, hEw⟩
  have : sameRes a b = false := by
   unfold sameRes
   by_cases hgl : a.glue.length = b.glue.length
   ·rw [decide_eq_true hgl, Bool.and_true] at hcnd
    cases h1 : decide (a.kind = b.kind) <;> cases h2 : (a.wild == b.wild) <;> cases h3 : decide (foldN a.name = foldN b.name) <;> cases h4 : eqAll sameD a.data b.data <;> simp_all
   ·rw [eqAll_len hgl]; simp
  rw [this]
 intro hc
 have hc' : cnd = true := by simpa using hc
 rw [hc'] at hcnd
 unfold preRes at hcnd
 simp only [Bool.and_eq_true, decide_eq_true_eq] at hcnd
 obtain ⟨c1, c2, c3, c4, c5⟩ := hcnd
 have hsr : sameRes a b = eqAll sameG a.glue b.glue := by
  unfold sameRes
  rw [decide_eq_true c1, c2, decide_eq_true c3, c4, Bool.true_and, Bool.true_and, Bool.true_and, Bool.true_and]
 repeat refine c_r ?_
 refine rg0 ?_
 repeat refine c_r ?_
 refine W_loop (fun m σ ds A => ds = [] ∧ ∃ (i : Nat), i + m = a.glue.length ∧ σ 5 = vi i ∧ σ 2 = .pointer (some ⟨w.heap.size, 0, Option.none⟩) ∧ σ 3 = .pointer (some ⟨w.heap.size + 1, 0, Option.none⟩) ∧ Ext w1 A ∧ eqAll sameG a.glue b.glue = eqAll sameG (a.glue.drop i) (b.glue.drop i)) a.glue.length ?_ ?_
 ·exact ⟨rfl, 0, by omega, vr0, (vq1 h2), (vq1 h3), hE2, rfl⟩
 clear h2 h3 h42
 rintro m σ ds A ⟨rfl, i, him, h5, h2, h3, hEA, hinv⟩
 have p4 : cellO A (some ⟨w.heap.size, 4, Option.none⟩) = some gv := cellO_at (hEA.at hA) rfl
 rw [hgv] at p4
 repeat refine c_r ?_
 refine rg4 h5 h2 p4 Nat.zero_add ?_
 repeat refine c_r ?_
 refine wc0 ?_ ?_
 ·intro hlt
  simp only [decide_eq_true_eq] at hlt
  have hix : i < a.glue.length := by omega
  have ogl := oa.gl
  have hiy : i < b.glue.length := by omega
  have hi0 : (0 : Int) ≤ (i : Int) := by omega
  have hi1 : (i : Int) < (a.glue.length : Int) := by omega
  have hi2 : (i : Int) < (b.glue.length : Int) := by omega
  have hi1' : (i : Int) + 1 = ((i + 1 : Nat) : Int) := by push_cast; rfl
  obtain ⟨cs, hcs, hv, dx, rfl, j1, j2⟩ := hgg i hix
  obtain ⟨es, hes, hv2, dy, rfl, k1, k2⟩ := hgg2 i hiy
  obtain ⟨zx, rfl⟩ := Option.isSome_iff_exists.1 (cellsO_some hcs)
  obtain ⟨zy, rfl⟩ := Option.isSome_iff_exists.1 (cellsO_some hes)
  obtain ⟨xi, hxi⟩ : ∃ xi, adr (some zx) (i * 2) = some xi := ⟨_, rfl⟩
  obtain ⟨yi, hyi⟩ : ∃ yi, adr (some zy) (i * 2) = some yi := ⟨_, rfl⟩
  rw [hxi] at hcs
  rw [hyi] at hes
  have ox := oa.g _ (List.getElem_mem hix)
  have oy := ob.g _ (List.getElem_mem hiy)
  have olx := ox.1.len
  have oly := oy.1.len
  have hst := eqAll_drop (p := sameG) hix hiy
  have hEwA := hE1.trans hEA
  repeat refine c_r ?_
  refine W_mono (Q := fun e σ' ds' v' => e = .normal ∧ ds' = [] ∧ σ' 5 = vi i ∧ σ' 2 = .pointer (some ⟨w.heap.size, 0, Option.none⟩) ∧ σ' 3 = .pointer (some ⟨w.heap.size + 1, 0, Option.none⟩) ∧ Ext A v' ∧ σ' 79 = .bool (!sameG a.glue[i] b.glue[i])) ?_ ?_
  ·refine W_drw (fun _ => false) [(0, true), (1, true), (2, true), (3, true), (4, true), (5, true), (6, true), (7, true), (8, true), (9, true), (10, true), (11, true), (12, false), (13, true), (14, true), (15, true), (16, true), (17, true), (18, true), (19, true), (20, true), (21, true), (22, true), (23, true), (24, true), (25, true), (26, true), (27, false), (28, true), (29, true)] NoS mixed (by kernel_rfl) ?_; intro gd K x hgd hx hxe hK; clear hxe
   have hg14 : ∀ n σ b, wantV gd n σ (some (14, b)) = boolIs (ev n σ (.tmp 64)) b := (fun n σ b => by rw [wantV_some, show gd 14 = some 64 from (by rw [hgd]; rfl)]; rfl)
   have hEx := hEwA.trans hx
   have p4x := cellO_ext hx p4
   have q4x : cellO x (some ⟨w.heap.size + 1, 4, Option.none⟩) = some gv2 := cellO_at (Ext.at (hEA.trans hx) hB) rfl
   rw [hgv2] at q4x
   have f0 : cellO x (adr (some xi) 0) = some hv := cell_of_cells (cellsO_ext hEx hcs) rfl
   have f1 : cellO x (adr (some xi) 1) = some dx := cell_of_cells (cellsO_ext hEx hcs) rfl
   have g0 : cellO x (adr (some yi) 0) = some hv2 := cell_of_cells (cellsO_ext hEx hes) rfl
   have g1 : cellO x (adr (some yi) 1) = some dy := cell_of_cells (cellsO_ext hEx hes) rfl
   rw [adr_zero] at f0 g0
   simp (disch := first | omega | assumption | rfl) only [↓reduceIte, go_sem, Nat.reduceLT, Nat.reduceEqDiff, Nat.reduceSub, h2, h3, h5, p4x, q4x, Nat.zero_add, hi0, hi1, hi2, hxi, hyi, f0, g0, adr_zero, ↓hg14]
   refine Fn.mono (RSame_ok _ _ _ _ _ (j1.ext (hE0.trans hEx)) (k1.ext (hE0.trans hEx)) ox.1.lb oy.1.lb (by omega) (by omega)) ?_
   rintro _ x1 ⟨rfl, hx1⟩
   refine ⟨.inr hx1, ?_⟩
   have p4y := cellO_ext hx1 p4x
   have q4y := cellO_ext hx1 q4x
   have f1y := cellO_ext hx1 f1
   have g1y := cellO_ext hx1 g1
   by_cases hn : foldN a.glue[i].1 = foldN b.glue[i].1
   ·rw [decide_eq_true hn]
    simp (disch := first | omega | assumption | rfl) only [↓reduceIte, go_sem, Nat.reduceLT, Nat.reduceEqDiff, Nat.reduceSub, h2, h3, h5, p4y, q4y, Nat.zero_add, hi0, hi1, hi2, hxi, hyi, f1y, g1y, ↓hg14]
    refine Fn.mono (RSameDatas_ok (hE0.trans (hEx.trans hx1)) (j2.ext (hEx.trans hx1)) (k2.ext (hEx.trans hx1)) ox.2.1 oy.2.1 ox.2.2 oy.2.2) ?_
    rintro _ x2 ⟨rfl, hx2⟩
    refine ⟨.inr hx2, ?_⟩
    simp (disch := first | omega | assumption | rfl) only [↓reduceIte, go_sem, Nat.reduceLT, Nat.reduceEqDiff, Nat.reduceSub, ↓hg14]
    refine hK _ _ ?_; clear hK hgd; clear K; try clear gd
    refine ⟨rfl, rfl, (vq1 h5), (vq1 h2), (vq1 h3), (hx.trans hx1).trans hx2, ?_⟩
    rw [show sameG a.glue[i] b.glue[i] = eqAll sameD a.glue[i].2 b.glue[i].2 from by unfold sameG; rw [decide_eq_true hn, Bool.true_and]]
    first | (simp only [↓reduceIte, go_sem, Nat.reduceLT, Nat.reduceEqDiff, Nat.reduceSub]; done) | (simp only [↓reduceIte, go_sem, Nat.reduceLT, Nat.reduceEqDiff, Nat.reduceSub]; rfl)
   ·rw [decide_eq_false hn]
    simp (disch := first | omega | assumption | rfl) only [↓reduceIte, go_sem, Nat.reduceLT, Nat.reduceEqDiff, Nat.reduceSub, ↓hg14]
    refine hK _ _ ?_; clear hK hgd; clear K; try clear gd
    refine ⟨rfl, rfl, (vq1 h5), (vq1 h2), (vq1 h3), hx.trans hx1, ?_⟩
    rw [show sameG a.glue[i] b.glue[i] = false from by unfold sameG; rw [decide_eq_false hn, Bool.false_and]]
    first | (simp only [↓reduceIte, go_sem, Nat.reduceLT, Nat.reduceEqDiff, Nat.reduceSub]; done) | (simp only [↓reduceIte, go_sem, Nat.reduceLT, Nat.reduceEqDiff, Nat.reduceSub]; rfl)
  clear h5 h2 h3
  rintro _ σ1 _ A1 ⟨rfl, rfl, h5, h2, h3, hA1, h79⟩
  repeat refine c_r ?_
  refine W_cond (t := !sameG a.glue[i] b.glue[i]) ((vq1 h79)) ?_ ?_
  ·intro hf
   simp only [Bool.not_eq_true'] at hf
   repeat (first | refine c_r ?_ | refine rg0 ?_)
   refine rt0 Tryz.ntmps23 ?_
   exact ⟨by rw [hsr, hinv, hst, hf, Bool.false_and], hE1.trans (hEA.trans hA1)⟩
  ·intro ht
   simp only [Bool.not_eq_false'] at ht
   repeat refine c_r ?_
   refine rg2 h5 hi1' ?_
   repeat refine c_r ?_
   exact ⟨m - 1, by omega, rfl, i + 1, by omega, vq0, (vq1 h2), (vq1 h3), hEA.trans hA1, by rw [hinv, hst, ht, Bool.true_and]⟩
 ·intro hge
  simp only [decide_eq_false_iff_not] at hge
  have e1 : a.glue.drop i = [] := List.drop_eq_nil_of_le (by omega)
  have e2 : b.glue.drop i = [] := List.drop_eq_nil_of_le (by omega)
  repeat (first | refine c_r ?_ | refine rg0 ?_)
  refine rt0 Tryz.ntmps23 ?_
  exact ⟨by rw [hsr, hinv, e1, e2]; rfl, hE1.trans hEA⟩
end Go.Proofs.YtopbbjdembnfdaaGreat
