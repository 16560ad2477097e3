/-
  What a walk over all names tells of one name: what is right below it, the deepest that it is below.
  Conditions: none; plain facts.
-/
import Derived.Test.YtciadbhnodgpgaaH0
set_option linter.unusedVariables false
set_option linter.unusedSimpArgs false
set_option linter.defProp false
namespace Go.Proofs.Ytciadbhnodgpgaa
open Go

theorem suffix_len_eq {a b q : Nm} (h1 : a <:+ q) (h2 : b <:+ q) (h : a.length = b.length) : a = b :=
  (List.suffix_of_suffix_length_le h1 h2 (by omega)).eq_of_length h

theorem suffix_drop {a q : Nm} : a <:+ q ↔ a.length ≤ q.length ∧ q.drop (q.length - a.length) = a := by
  constructor
  · rintro ⟨p, rfl⟩
    refine ⟨by simp, by simp⟩
  · rintro ⟨_, h⟩
    rw [← h]; exact List.drop_suffix _ _

theorem under_iff {q x : Nm} (hx : foldN x = x) : under q x = true ↔ x <:+ foldN q := by
  unfold under
  rw [Bool.and_eq_true, decide_eq_true_eq, decide_eq_true_eq, hx, foldN_drop, suffix_drop, foldN_len]

theorem kid_iff {q x : Nm} (hx : foldN x = x) : (decide (x.length = q.length + 1) && under x q) = true ↔ ∃ l, x = l :: foldN q := by
  unfold under
  rw [Bool.and_eq_true, Bool.and_eq_true, decide_eq_true_eq, decide_eq_true_eq, decide_eq_true_eq, foldN_drop, hx]
  constructor
  · rintro ⟨h1, _, h3⟩
    cases x with
    | nil => simp at h1
    | cons l t =>
      simp only [List.length_cons] at h1 h3
      rw [show t.length + 1 - q.length = 1 from by omega] at h3
      exact ⟨l, by rw [← h3]; rfl⟩
  · rintro ⟨l, rfl⟩
    refine ⟨by simp [foldN_len], by simp [foldN_len], ?_⟩
    simp only [List.length_cons, foldN_len]
    rw [show q.length + 1 - q.length = 1 from by omega]; rfl

theorem kidsOf_snoc (L : List Nm) (x Q : Nm) : (∀ l, x = l :: Q → kidsOf (L ++ [x]) Q = kidsOf L Q ++ [l]) ∧ ((¬ ∃ l, x = l :: Q) → kidsOf (L ++ [x]) Q = kidsOf L Q) := by
  cases x with
  | nil =>
    refine ⟨fun l h => (by cases h), fun _ => ?_⟩
    unfold kidsOf
    rw [List.filterMap_append]; simp
  | cons a t =>
    rw [kidsOf_add]
    refine ⟨fun l h => (by cases h; simp), fun h => ?_⟩
    rw [if_neg]
    rintro rfl
    exact h ⟨a, rfl⟩

theorem kidsOf_len (L : List Nm) (Q : Nm) : (kidsOf L Q).length ≤ L.length := by unfold kidsOf; exact List.length_filterMap_le _ _

theorem kidsOf_rise {L : List Nm} (h : Rise L) (Q : Nm) : (kidsOf L Q).Pairwise (fun a b => cmpL a b < 0) := by
  unfold kidsOf
  rw [List.pairwise_filterMap]
  refine List.Pairwise.imp (fun {a b} hab x hx y hy => ?_) h
  cases a with
  | nil => cases hx
  | cons p t =>
    cases b with
    | nil => cases hy
    | cons r u =>
      simp only at hx hy
      split at hx
      · split at hy
        · cases hx; cases hy
          rename_i h1 h2
          subst h1
          rw [h2] at hab
          rwa [cmpN_cons] at hab
        · cases hy
      · cases hx

theorem kidsOf_sorted {L names : List Nm} (h : Rise L) (hn : names.Nodup) (hm : ∀ g, g ∈ L ↔ g ∈ names) (Q : Nm) : sortK (kidsOf names Q) = kidsOf L Q := by
  have h1 := kidsOf_rise h Q
  have hnL : L.Nodup := List.Pairwise.imp (fun {a b} h e => by subst e; rw [cmpN_self] at h; omega) h
  have hp : (kidsOf L Q).Perm (kidsOf names Q) := (List.perm_ext_iff_of_nodup (kidsOf_nd hnL Q) (kidsOf_nd hn Q)).2 fun l => by rw [mem_kidsOf, mem_kidsOf, hm]
  refine sorted_eq (sortK_sorted _) (h1.imp fun {a b} hab => ?_) ((sortK_perm _).trans hp.symm)
  simp only [leL, decide_eq_true_eq]; omega

/-- the deepest among names that a name is at or below -/
structure DeepOf (Q : Nm) (L : List Nm) (D : Nm) : Prop where
  suf : D <:+ Q
  mem : D = [] ∨ D ∈ L
  most : ∀ x ∈ L, x <:+ Q → x.length ≤ D.length

theorem DeepOf.nil (Q : Nm) : DeepOf Q [] [] := ⟨List.nil_suffix, .inl rfl, fun x h => by cases h⟩
theorem DeepOf.step {Q : Nm} {L : List Nm} {D x : Nm} (h : DeepOf Q L D) : (x <:+ Q → D.length ≤ x.length → DeepOf Q (L ++ [x]) x) ∧ ((¬ (x <:+ Q ∧ D.length ≤ x.length)) → DeepOf Q (L ++ [x]) D) := by
  constructor
  · intro h1 h2
    refine ⟨h1, .inr (by simp), fun y hy hs => ?_⟩
    rcases List.mem_append.1 hy with hy | hy
    · have := h.most y hy hs; omega
    · rw [List.mem_singleton.1 hy]; omega
  · intro hn
    refine ⟨h.suf, ?_, fun y hy hs => ?_⟩
    · rcases h.mem with h | h
      · exact .inl h
      · exact .inr (List.mem_append_left _ h)
    · rcases List.mem_append.1 hy with hy | hy
      · exact h.most y hy hs
      · rw [List.mem_singleton.1 hy] at hs ⊢
        have : ¬ D.length ≤ x.length := fun e => hn ⟨hs, e⟩
        omega

theorem DeepOf.is {z : Value} {s : TS} (hs : TSok z s) {Q : Nm} {L : List Nm} {D : Nm} (h : DeepOf Q L D) (hm : ∀ g, g ∈ L ↔ g ∈ s.names) : D = sfx Q (dep s.names Q) := by
  have hle := dep_le s.names Q
  have h1 := dep_in hs Q
  have h2 : sfx Q (dep s.names Q) <:+ Q := List.drop_suffix _ _
  have h3 := h.most _ ((hm _).2 h1) h2
  rw [sfx_len hle] at h3
  have hD : D ∈ s.names := by
    rcases h.mem with e | e
    · rw [e]; exact hs.nil
    · exact (hm _).1 e
  refine suffix_len_eq h.suf h2 ?_
  rw [sfx_len hle]
  have h4 := h.suf.length_le
  by_cases hd : dep s.names Q < D.length
  · exfalso
    have := sfx_out hs hd h4
    apply this
    obtain ⟨_, e⟩ := suffix_drop.1 h.suf
    unfold sfx
    rw [e]; exact hD
  · omega
end Go.Proofs.Ytciadbhnodgpgaa
