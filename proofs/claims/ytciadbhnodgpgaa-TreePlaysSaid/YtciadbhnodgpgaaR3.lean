/-
  The reference's rows of names: where a name stands, names put in.
  Conditions: none.
-/
import Derived.Test.YtciadbhnodgpgaaR2
import Derived.Test.YtciadbhnodgpgaaN2
set_option linter.unusedVariables false
set_option linter.unusedSimpArgs false
set_option linter.defProp false
namespace Go.Proofs.Ytciadbhnodgpgaa
open Go
set_option maxRecDepth 10000

theorem cmpR_self : ∀ a : Nm, cmpR a a = 0
  | [] => rfl
  | a :: l => by simp [cmpR, cmpL_self, cmpR_self l]
theorem cmpR_neg : ∀ a b : Nm, cmpR b a = - cmpR a b
  | [], [] => rfl
  | [], _ :: _ => rfl
  | _ :: _, [] => rfl
  | a :: l, b :: m => by
    simp only [cmpR]
    rw [cmpL_neg a b]
    by_cases h : cmpL a b = 0
    · simp [h, cmpR_neg l m]
    · have : ¬ -cmpL a b = 0 := by omega
      simp [h, this]
theorem cmpR_zero : ∀ {a b : Nm}, cmpR a b = 0 → a = b
  | [], [], _ => rfl
  | [], _ :: _, h => by cases h
  | _ :: _, [], h => by cases h
  | a :: l, b :: m, h => by
    simp only [cmpR] at h
    split at h
    · rename_i h'; rw [cmpL_zero h', cmpR_zero h]
    · rename_i h'; exact absurd h h'
theorem cmpR_trans : ∀ {a b c : Nm}, cmpR a b < 0 → cmpR b c < 0 → cmpR a c < 0
  | [], [], _, h, _ => by simp [cmpR] at h
  | [], _ :: _, [], _, h => by simp [cmpR] at h
  | [], _ :: _, _ :: _, _, _ => by simp [cmpR]
  | _ :: _, [], _, h, _ => by simp [cmpR] at h
  | _ :: _, _ :: _, [], _, h => by simp [cmpR] at h
  | a :: l, b :: m, c :: n, h1, h2 => by
    simp only [cmpR] at *
    by_cases e1 : cmpL a b = 0
    · rw [if_pos e1] at h1
      have := cmpL_zero e1
      subst this
      by_cases e2 : cmpL a c = 0
      · rw [if_pos e2] at h2 ⊢; exact cmpR_trans h1 h2
      · rw [if_neg e2] at h2 ⊢; exact h2
    · rw [if_neg e1] at h1
      have h2' : cmpL b c ≤ 0 := by
        by_cases e2 : cmpL b c = 0
        · omega
        · rw [if_neg e2] at h2; omega
      have := cmpL_lt_trans h1 h2'
      rw [if_neg (by omega)]; exact this

theorem cmpN_self (a : Nm) : cmpN a a = 0 := cmpR_self _
theorem cmpN_neg (a b : Nm) : cmpN b a = - cmpN a b := cmpR_neg _ _
theorem cmpN_zero {a b : Nm} (h : cmpN a b = 0) : a = b := by
  have := cmpR_zero h
  simpa using congrArg List.reverse this
theorem cmpN_trans {a b c : Nm} (h1 : cmpN a b < 0) (h2 : cmpN b c < 0) : cmpN a c < 0 := cmpR_trans h1 h2

/-- names that rise -/
def Rise (L : List Nm) : Prop := L.Pairwise fun a b => cmpN a b < 0

theorem Rise.get {L : List Nm} (h : Rise L) {i j : Nat} (hij : i < j) (hj : j < L.length) : cmpN (L[i]'(by omega)) L[j] < 0 :=
  (List.pairwise_iff_getElem.1 h) i j (by omega) hj hij

/-- names that rise and have the same members are the same -/
theorem Rise.eq {L M : List Nm} (h1 : Rise L) (h2 : Rise M) (hm : ∀ g, g ∈ L ↔ g ∈ M) : L = M := by
  have n1 : L.Nodup := List.Pairwise.imp (fun {a b} h e => by subst e; rw [cmpN_self] at h; omega) h1
  have n2 : M.Nodup := List.Pairwise.imp (fun {a b} h e => by subst e; rw [cmpN_self] at h; omega) h2
  have hp : L.Perm M := (List.perm_ext_iff_of_nodup n1 n2).2 hm
  exact List.Perm.eq_of_pairwise (le := fun a b => cmpN a b < 0) (fun a b _ _ h1 h2 => by have := cmpN_neg a b; omega) h1 h2 hp

theorem NamesAt.ext {w x : World} {v : Value} {L : List Nm} (h : NamesAt w v L) (hE : Ext w x) : NamesAt x v L := by
  obtain ⟨vals, h1, h2, h3⟩ := h
  exact ⟨vals, h1.ext hE, h2, fun i a b => (h3 i a b).ext hE⟩

theorem mid_i64 (a b : Nat) : IntKind.i64.wrap (((a : Int) + b).tdiv 2) = ((a + b) / 2 : Nat) ∨ ¬ a + b ≤ 1000000000000000000 := by
  by_cases h : a + b ≤ 1000000000000000000
  · left
    have e : ((a : Int) + b).tdiv 2 = ((a + b) / 2 : Nat) := by
      rw [show ((a : Int) + b) = ((a + b : Nat) : Int) from by push_cast; rfl, Int.tdiv_eq_ediv_of_nonneg (by omega)]
      omega
    rw [e, wrap64 (by omega) (by omega)]
  · exact .inr h

theorem RPlace_ok (w : World) (lv nv : Value) (L : List Nm) (g : Nm) (hl : NamesAt w lv L) (hn : Row w nv (g.map vs)) (hfold : ∀ x ∈ L, foldN x = x) (hg : foldN g = g) (hLB : ∀ x ∈ L, LB x ∧ x.length ≤ 100000000000) (hgl : LB g ∧ g.length ≤ 100000000000)
    (hlen : L.length ≤ 1000000000000) (hs : Rise L) :
    Fn Try.prog 34 #[lv, nv] w (fun v w' => Ext w w' ∧ ∃ (k : Nat) (ok : Bool), v = .tuple #[vi k, .bool ok] ∧ k ≤ L.length ∧ (ok = true → ∃ h : k < L.length, L[k] = g) ∧
      (ok = false → (∀ x ∈ L.take k, cmpN x g < 0) ∧ ∀ x ∈ L.drop k, cmpN g x < 0)) := by
  obtain ⟨vals, ⟨a, ca, rfl, hca, hla⟩, hvl, hrows⟩ := hl
  refine enter Try.func34 Try.ntmps34 rfl rfl ?_
  repeat (first | (with_reducible first | refine W_seq ?_ | refine W_block ?_ | refine W_skip ?_ | refine W_ret ?_ | refine W_exit ?_ | refine thenQ_normal ?_ | refine thenQ_exit ?_ | refine thenQ_ret ?_ | refine blockQ_normal ?_ | refine blockQ_ret ?_ | refine blockQ_same ?_ | refine blockQ_other rfl ?_) | (refine W_reg (by rfl) ?_; intro gd K hgd hK; simp (disch := first | omega | assumption | rfl) only [↓reduceIte, go_sem, Nat.reduceLT, Nat.reduceEqDiff, Nat.reduceSub]; refine hK _ _ ?_; clear hK hgd; clear K gd))
  refine W_loop (fun m σ ds A => ds = [] ∧ ∃ x y : Nat, x + m = y ∧ y ≤ L.length ∧ σ 6 = vi x ∧ σ 7 = vi y ∧ σ 0 = .slice a vals.length ca ∧ σ 1 = nv ∧ Ext w A ∧ (∀ z ∈ L.take x, cmpN z g < 0) ∧ ∀ z ∈ L.drop y, cmpN g z < 0) L.length ?_ ?_
  · refine ⟨rfl, 0, L.length, by omega, Nat.le_refl _, ?_, ?_, ?_, ?_, Keep.refl _ _, by simp, by simp⟩
    · simp only [↓reduceIte, go_sem, Nat.reduceLT, Nat.reduceEqDiff, Nat.reduceSub]; rfl
    · simp only [↓reduceIte, go_sem, Nat.reduceLT, Nat.reduceEqDiff, Nat.reduceSub, hvl]
    · simp only [↓reduceIte, go_sem, Nat.reduceLT, Nat.reduceEqDiff, Nat.reduceSub]
    · simp only [↓reduceIte, go_sem, Nat.reduceLT, Nat.reduceEqDiff, Nat.reduceSub]
  · rintro m σ ds A ⟨rfl, x, y, hxm, hy, h6, h7, h0, h1, hE, hlo, hhi⟩
    repeat (with_reducible first | refine W_seq ?_ | refine W_block ?_ | refine W_skip ?_ | refine W_ret ?_ | refine W_exit ?_ | refine thenQ_normal ?_ | refine thenQ_exit ?_ | refine thenQ_ret ?_ | refine blockQ_normal ?_ | refine blockQ_ret ?_ | refine blockQ_same ?_ | refine blockQ_other rfl ?_)
    refine W_reg (by rfl) ?_; intro gd K hgd hK; simp (disch := first | omega | assumption | rfl) only [↓reduceIte, go_sem, Nat.reduceLT, Nat.reduceEqDiff, Nat.reduceSub, h6, h7]; refine hK _ _ ?_; clear hK hgd; clear K gd
    repeat (with_reducible first | refine W_seq ?_ | refine W_block ?_ | refine W_skip ?_ | refine W_ret ?_ | refine W_exit ?_ | refine thenQ_normal ?_ | refine thenQ_exit ?_ | refine thenQ_ret ?_ | refine blockQ_normal ?_ | refine blockQ_ret ?_ | refine blockQ_same ?_ | refine blockQ_other rfl ?_)
    refine W_cond (by simp only [↓reduceIte, go_sem, Nat.reduceLT, Nat.reduceEqDiff, Nat.reduceSub]; rfl) ?_ ?_
    · intro hlt
      simp only [decide_eq_true_eq] at hlt
      have hmid := (mid_i64 x y).resolve_right (by omega)
      obtain ⟨k, hk⟩ : ∃ k, (x + y) / 2 = k := ⟨_, rfl⟩
      rw [hk] at hmid
      have hkx : x ≤ k := by omega
      have hky : k < y := by omega
      have hsa : a.isSome = true := some_of_cellO (hla k (by omega))
      have hla' := fun j h => cellO_ext hE (hla j h)
      repeat (with_reducible first | refine W_seq ?_ | refine W_block ?_ | refine W_skip ?_ | refine W_ret ?_ | refine W_exit ?_ | refine thenQ_normal ?_ | refine thenQ_exit ?_ | refine thenQ_ret ?_ | refine blockQ_normal ?_ | refine blockQ_ret ?_ | refine blockQ_same ?_ | refine blockQ_other rfl ?_)
      refine W_reg (by rfl) ?_; intro gd K hgd hK
      try simp (disch := first | omega | assumption | rfl) only [↓reduceIte, go_sem, Nat.reduceLT, Nat.reduceEqDiff, Nat.reduceSub, h6, h7]
      rw [hmid]
      try simp (disch := first | omega | assumption | rfl) only [↓reduceIte, go_sem, Nat.reduceLT, Nat.reduceEqDiff, Nat.reduceSub]
      refine hK _ _ ?_; clear hK hgd; clear K; try clear gd
      repeat (with_reducible first | refine W_seq ?_ | refine W_block ?_ | refine W_skip ?_ | refine W_ret ?_ | refine W_exit ?_ | refine thenQ_normal ?_ | refine thenQ_exit ?_ | refine thenQ_ret ?_ | refine blockQ_normal ?_ | refine blockQ_ret ?_ | refine blockQ_same ?_ | refine blockQ_other rfl ?_)
      refine W_reg (by rfl) ?_; intro gd K hgd hK
      try simp (disch := first | omega | assumption | rfl) only [↓reduceIte, go_sem, Nat.reduceLT, Nat.reduceEqDiff, Nat.reduceSub, h0, h1, hla']
      refine Fn.mono (RCompare_ok A _ _ L[k] g ((hrows k (by omega) (by omega)).ext hE) (hn.ext hE) (hLB _ (List.getElem_mem _)).1 hgl.1 (by have := (hLB _ (List.getElem_mem (by omega : k < L.length))).2; omega) (by omega)) ?_
      rintro _ w1 ⟨rfl, hE1⟩
      rw [hfold _ (List.getElem_mem _), hg]
      try simp (disch := first | omega | assumption | rfl) only [↓reduceIte, go_sem, Nat.reduceLT, Nat.reduceEqDiff, Nat.reduceSub]
      refine hK _ _ ?_; clear hK hgd; clear K; try clear gd
      repeat (with_reducible first | refine W_seq ?_ | refine W_block ?_ | refine W_skip ?_ | refine W_ret ?_ | refine W_exit ?_ | refine thenQ_normal ?_ | refine thenQ_exit ?_ | refine thenQ_ret ?_ | refine blockQ_normal ?_ | refine blockQ_ret ?_ | refine blockQ_same ?_ | refine blockQ_other rfl ?_)
      refine W_reg (by rfl) ?_; intro gd K hgd hK; simp (disch := first | omega | assumption | rfl) only [↓reduceIte, go_sem, Nat.reduceLT, Nat.reduceEqDiff, Nat.reduceSub]; refine hK _ _ ?_; clear hK hgd; clear K gd
      repeat (with_reducible first | refine W_seq ?_ | refine W_block ?_ | refine W_skip ?_ | refine W_ret ?_ | refine W_exit ?_ | refine thenQ_normal ?_ | refine thenQ_exit ?_ | refine thenQ_ret ?_ | refine blockQ_normal ?_ | refine blockQ_ret ?_ | refine blockQ_same ?_ | refine blockQ_other rfl ?_)
      refine W_cond (by simp only [↓reduceIte, go_sem, Nat.reduceLT, Nat.reduceEqDiff, Nat.reduceSub]; rfl) ?_ ?_
      · intro hz
        simp only [decide_eq_true_eq] at hz
        repeat (first | (with_reducible first | refine W_seq ?_ | refine W_block ?_ | refine W_skip ?_ | refine W_ret ?_ | refine W_exit ?_ | refine thenQ_normal ?_ | refine thenQ_exit ?_ | refine thenQ_ret ?_ | refine blockQ_normal ?_ | refine blockQ_ret ?_ | refine blockQ_same ?_ | refine blockQ_other rfl ?_) | (refine W_reg (by rfl) ?_; intro gd K hgd hK; simp (disch := first | omega | assumption | rfl) only [↓reduceIte, go_sem, Nat.reduceLT, Nat.reduceEqDiff, Nat.reduceSub]; refine hK _ _ ?_; clear hK hgd; clear K gd))
        refine ret_two (by simp) rfl Try.ntmps34 (by simp only [↓reduceIte, go_sem, Nat.reduceLT, Nat.reduceEqDiff, Nat.reduceSub]; rfl) (by simp only [↓reduceIte, go_sem, Nat.reduceLT, Nat.reduceEqDiff, Nat.reduceSub]; rfl) ?_
        exact ⟨hE.trans hE1, k, true, rfl, by omega, fun _ => ⟨by omega, cmpN_zero hz⟩, fun h => by cases h⟩
      · intro hz
        simp only [decide_eq_false_iff_not] at hz
        repeat (first | (with_reducible first | refine W_seq ?_ | refine W_block ?_ | refine W_skip ?_ | refine W_ret ?_ | refine W_exit ?_ | refine thenQ_normal ?_ | refine thenQ_exit ?_ | refine thenQ_ret ?_ | refine blockQ_normal ?_ | refine blockQ_ret ?_ | refine blockQ_same ?_ | refine blockQ_other rfl ?_) | (refine W_reg (by rfl) ?_; intro gd K hgd hK; simp (disch := first | omega | assumption | rfl) only [↓reduceIte, go_sem, Nat.reduceLT, Nat.reduceEqDiff, Nat.reduceSub]; refine hK _ _ ?_; clear hK hgd; clear K gd))
        refine W_cond (by simp only [↓reduceIte, go_sem, Nat.reduceLT, Nat.reduceEqDiff, Nat.reduceSub]; rfl) ?_ ?_
        · intro hlt0
          simp only [decide_eq_true_eq] at hlt0
          repeat (first | (with_reducible first | refine W_seq ?_ | refine W_block ?_ | refine W_skip ?_ | refine W_ret ?_ | refine W_exit ?_ | refine thenQ_normal ?_ | refine thenQ_exit ?_ | refine thenQ_ret ?_ | refine blockQ_normal ?_ | refine blockQ_ret ?_ | refine blockQ_same ?_ | refine blockQ_other rfl ?_) | (refine W_reg (by rfl) ?_; intro gd K hgd hK; simp (disch := first | omega | assumption | rfl) only [↓reduceIte, go_sem, Nat.reduceLT, Nat.reduceEqDiff, Nat.reduceSub]; refine hK _ _ ?_; clear hK hgd; clear K gd))
          refine ⟨m - (k + 1 - x), by omega, rfl, k + 1, y, by omega, hy, by simp only [↓reduceIte, go_sem, Nat.reduceLT, Nat.reduceEqDiff, Nat.reduceSub]; push_cast; rfl, by simp only [↓reduceIte, go_sem, Nat.reduceLT, Nat.reduceEqDiff, Nat.reduceSub, h7], by simp only [↓reduceIte, go_sem, Nat.reduceLT, Nat.reduceEqDiff, Nat.reduceSub, h0], by simp only [↓reduceIte, go_sem, Nat.reduceLT, Nat.reduceEqDiff, Nat.reduceSub, h1], hE.trans hE1, ?_, hhi⟩
          intro z hz'
          rw [take_succ' (by omega)] at hz'
          rcases List.mem_append.1 hz' with hz' | hz'
          · obtain ⟨i, hi, rfl⟩ := List.getElem_of_mem hz'
            simp at hi
            rw [List.getElem_take]
            exact cmpN_trans (hs.get (by omega) (by omega)) hlt0
          · rw [List.mem_singleton.1 hz']; exact hlt0
        · intro hge0
          simp only [decide_eq_false_iff_not] at hge0
          repeat (first | (with_reducible first | refine W_seq ?_ | refine W_block ?_ | refine W_skip ?_ | refine W_ret ?_ | refine W_exit ?_ | refine thenQ_normal ?_ | refine thenQ_exit ?_ | refine thenQ_ret ?_ | refine blockQ_normal ?_ | refine blockQ_ret ?_ | refine blockQ_same ?_ | refine blockQ_other rfl ?_) | (refine W_reg (by rfl) ?_; intro gd K hgd hK; simp (disch := first | omega | assumption | rfl) only [↓reduceIte, go_sem, Nat.reduceLT, Nat.reduceEqDiff, Nat.reduceSub]; refine hK _ _ ?_; clear hK hgd; clear K gd))
          refine ⟨k - x, by omega, rfl, x, k, by omega, by omega, by simp only [↓reduceIte, go_sem, Nat.reduceLT, Nat.reduceEqDiff, Nat.reduceSub, h6], by simp only [↓reduceIte, go_sem, Nat.reduceLT, Nat.reduceEqDiff, Nat.reduceSub], by simp only [↓reduceIte, go_sem, Nat.reduceLT, Nat.reduceEqDiff, Nat.reduceSub, h0], by simp only [↓reduceIte, go_sem, Nat.reduceLT, Nat.reduceEqDiff, Nat.reduceSub, h1], hE.trans hE1, hlo, ?_⟩
          have hgk : cmpN g L[k] < 0 := by have := cmpN_neg L[k] g; omega
          intro z hz'
          rw [List.drop_eq_getElem_cons (by omega)] at hz'
          rcases List.mem_cons.1 hz' with hz' | hz'
          · rw [hz']; exact hgk
          · obtain ⟨i, hi, rfl⟩ := List.getElem_of_mem hz'
            simp at hi
            rw [List.getElem_drop]
            exact cmpN_trans hgk (hs.get (by omega) (by omega))
    · intro hge
      simp only [decide_eq_false_iff_not] at hge
      repeat (first | (with_reducible first | refine W_seq ?_ | refine W_block ?_ | refine W_skip ?_ | refine W_ret ?_ | refine W_exit ?_ | refine thenQ_normal ?_ | refine thenQ_exit ?_ | refine thenQ_ret ?_ | refine blockQ_normal ?_ | refine blockQ_ret ?_ | refine blockQ_same ?_ | refine blockQ_other rfl ?_) | (refine W_reg (by rfl) ?_; intro gd K hgd hK; simp (disch := first | omega | assumption | rfl) only [↓reduceIte, go_sem, Nat.reduceLT, Nat.reduceEqDiff, Nat.reduceSub, h6]; refine hK _ _ ?_; clear hK hgd; clear K gd))
      refine ret_two (by simp) rfl Try.ntmps34 (by simp only [↓reduceIte, go_sem, Nat.reduceLT, Nat.reduceEqDiff, Nat.reduceSub]; rfl) (by simp only [↓reduceIte, go_sem, Nat.reduceLT, Nat.reduceEqDiff, Nat.reduceSub]; rfl) ?_
      have hxy : x = y := by omega
      exact ⟨hE, x, false, rfl, by omega, (fun h => by cases h), fun _ => ⟨hlo, by rw [hxy]; exact hhi⟩⟩
end Go.Proofs.Ytciadbhnodgpgaa
