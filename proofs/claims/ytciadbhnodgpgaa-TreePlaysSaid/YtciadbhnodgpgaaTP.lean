/-
  The plain law of trees: all names of a tree, in the reference's order; what is right below; the deepest.
  Conditions: none; plain facts.
-/
import Derived.Test.YtciadbhnodgpgaaN1
import Derived.Test.YtciadbhnodgpgaaR4
set_option linter.unusedVariables false
set_option linter.unusedSimpArgs false
set_option linter.defProp false
namespace Go.Proofs.Ytciadbhnodgpgaa
open Go

theorem cmpR_app (r a b : Nm) : cmpR (r ++ a) (r ++ b) = cmpR a b := by
  induction r with
  | nil => rfl
  | cons x r ih => simp only [List.cons_append, cmpR, cmpL_self, if_true]; exact ih
theorem cmpN_above {f p : Nm} (h : p ≠ []) : cmpN f (p ++ f) < 0 := by
  unfold cmpN
  rw [List.reverse_append]
  have := cmpR_app f.reverse [] p.reverse
  rw [List.append_nil] at this
  rw [this]
  rcases hp : p.reverse with _ | ⟨x, q⟩
  · exact absurd (by simpa using hp) h
  · simp [cmpR]
theorem cmpN_branch {f p q : Nm} {l m : Lab} (h : cmpL l m < 0) : cmpN (p ++ l :: f) (q ++ m :: f) < 0 := by
  unfold cmpN
  simp only [List.reverse_append, List.reverse_cons, List.append_assoc]
  rw [cmpR_app]
  simp only [List.cons_append, List.nil_append, cmpR]
  rw [if_neg (by omega)]; exact h
theorem cmpN_cons {f : Nm} {l m : Lab} : cmpN (l :: f) (m :: f) = cmpL l m := by
  unfold cmpN
  simp only [List.reverse_cons]
  rw [cmpR_app]
  simp only [cmpR]
  split
  · rename_i h; rw [h]
  · rfl

theorem kidsOf_nd {names : List Nm} (h : names.Nodup) (f : Nm) : (kidsOf names f).Nodup := by
  unfold kidsOf
  rw [List.nodup_iff_pairwise_ne] at h ⊢
  rw [List.pairwise_filterMap]
  refine h.imp (fun {a b} hab x hx y hy e => ?_)
  subst e
  apply hab
  cases a with
  | nil => cases hx
  | cons p t =>
    cases b with
    | nil => cases hy
    | cons q t' =>
      simp only at hx hy
      split at hx
      · split at hy
        · cases hx; cases hy; rename_i h1 h2; rw [h1, h2]
        · cases hy
      · cases hx

theorem sortK_lt {l : List Lab} (h : l.Nodup) : (sortK l).Pairwise (fun a b => cmpL a b < 0) := by
  have h1 := sortK_sorted l
  have h2 : (sortK l).Nodup := (sortK_perm l).nodup_iff.2 h
  rw [List.nodup_iff_pairwise_ne] at h2
  refine (h1.and h2).imp (fun {a b} ⟨h3, h4⟩ => ?_)
  simp only [leL, decide_eq_true_eq] at h3
  have : cmpL a b ≠ 0 := fun e => h4 (cmpL_zero e)
  omega
theorem mem_sortK {l : List Lab} {x : Lab} : x ∈ sortK l ↔ x ∈ l := (sortK_perm l).mem_iff

section
variable {names : List Nm} (hcl : ∀ l f, l :: f ∈ names → f ∈ names) (hnd : names.Nodup)
include hcl

theorem suffix_in {f : Nm} : ∀ {p : Nm}, p ++ f ∈ names → f ∈ names
  | [], h => h
  | _ :: p, h => suffix_in (p := p) (hcl _ _ h)

theorem mem_allN : ∀ (k : Nat) (f g : Nm), f ∈ names → (∀ g ∈ names, g.length < f.length + k) → (g ∈ allN names k f ↔ g ∈ names ∧ ∃ p, g = p ++ f)
  | 0, f, g, hf, hk => by have := hk f hf; omega
  | k + 1, f, g, hf, hk => by
    simp only [allN, List.mem_cons, List.mem_flatten, List.mem_map]
    constructor
    · rintro (rfl | ⟨_, ⟨l, hl, rfl⟩, hg⟩)
      · exact ⟨hf, [], rfl⟩
      · rw [mem_sortK, mem_kidsOf] at hl
        obtain ⟨h1, p, h2⟩ := (mem_allN k (l :: f) g hl (fun g hg => by have := hk g hg; simp; omega)).1 hg
        exact ⟨h1, p ++ [l], by rw [h2]; simp⟩
    · rintro ⟨hg, p, hp⟩
      rcases List.eq_nil_or_concat p with rfl | ⟨q, l, rfl⟩
      · exact .inl (by simpa using hp)
      · right
        have hp' : g = q ++ l :: f := by rw [hp]; simp
        have hl : l :: f ∈ names := by rw [hp'] at hg; exact suffix_in hcl hg
        exact ⟨_, ⟨l, mem_sortK.2 (mem_kidsOf.2 hl), rfl⟩, (mem_allN k (l :: f) g hl (fun g hg => by have := hk g hg; simp; omega)).2 ⟨hg, q, hp'⟩⟩

include hnd
theorem rise_allN : ∀ (k : Nat) (f : Nm), f ∈ names → (∀ g ∈ names, g.length < f.length + k) → Rise (allN names k f)
  | 0, f, hf, hk => by have := hk f hf; omega
  | k + 1, f, hf, hk => by
    have hk' : ∀ l, ∀ g ∈ names, g.length < (l :: f).length + k := fun l g hg => by have := hk g hg; simp; omega
    simp only [allN]
    refine List.pairwise_cons.2 ⟨fun g hg => ?_, ?_⟩
    · simp only [List.mem_flatten, List.mem_map] at hg
      obtain ⟨_, ⟨l, hl, rfl⟩, hg⟩ := hg
      rw [mem_sortK, mem_kidsOf] at hl
      obtain ⟨_, p, rfl⟩ := (mem_allN hcl k (l :: f) g hl (hk' l)).1 hg
      rw [show p ++ l :: f = (p ++ [l]) ++ f from by simp]
      exact cmpN_above (by simp)
    · rw [List.pairwise_flatten]
      refine ⟨fun x hx => ?_, ?_⟩
      · simp only [List.mem_map] at hx
        obtain ⟨l, hl, rfl⟩ := hx
        rw [mem_sortK, mem_kidsOf] at hl
        exact rise_allN k (l :: f) hl (hk' l)
      · rw [List.pairwise_map]
        refine List.Pairwise.imp_of_mem ?_ (sortK_lt (kidsOf_nd hnd f))
        intro l m hl hm hlm x hx y hy
        rw [mem_sortK, mem_kidsOf] at hl hm
        obtain ⟨_, p, rfl⟩ := (mem_allN hcl k (l :: f) x hl (hk' l)).1 hx
        obtain ⟨_, q, rfl⟩ := (mem_allN hcl k (m :: f) y hm (hk' m)).1 hy
        exact cmpN_branch hlm

theorem allN_root {k : Nat} (h0 : [] ∈ names) (hk : ∀ g ∈ names, g.length < k) : Rise (allN names k []) ∧ (∀ g, g ∈ allN names k [] ↔ g ∈ names) ∧ (allN names k []).length = names.length := by
  have hk' : ∀ g ∈ names, g.length < ([] : Nm).length + k := fun g hg => by have := hk g hg; simp; omega
  have h1 := rise_allN hcl hnd k [] h0 hk'
  have h2 : ∀ g, g ∈ allN names k [] ↔ g ∈ names := fun g => by
    rw [mem_allN hcl k [] g h0 hk']
    exact ⟨fun h => h.1, fun h => ⟨h, g, by simp⟩⟩
  refine ⟨h1, h2, ?_⟩
  have n1 : (allN names k []).Nodup := List.Pairwise.imp (fun {a b} h e => by subst e; rw [cmpN_self] at h; omega) h1
  exact ((List.perm_ext_iff_of_nodup n1 hnd).2 h2).length_eq
end
end Go.Proofs.Ytciadbhnodgpgaa
