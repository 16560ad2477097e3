/-
  What was put into a tree, one after the other.
  Conditions: none; plain facts.
-/
import Derived.Test.YtciadbhnodgpgaaTP
set_option linter.unusedVariables false
set_option linter.unusedSimpArgs false
set_option linter.defProp false
namespace Go.Proofs.Ytciadbhnodgpgaa
open Go

theorem nodup_len {α : Type} [DecidableEq α] : ∀ {l m : List α}, l.Nodup → (∀ a ∈ l, a ∈ m) → l.length ≤ m.length
  | [], _, _, _ => Nat.zero_le _
  | a :: l, m, h, hs => by
    have h1 := List.nodup_cons.1 h
    have ha := hs a (List.mem_cons_self ..)
    have := nodup_len (l := l) (m := m.erase a) h1.2 (fun b hb => (List.mem_erase_of_ne (fun (e : b = a) => h1.1 (e ▸ hb))).2 (hs b (List.mem_cons_of_mem _ hb)))
    rw [List.length_erase_of_mem ha] at this
    have := List.length_pos_of_mem ha
    simp; omega

def lastOf (ps : List (Nm × Value)) (g : Nm) : Option Value := ps.foldl (fun acc p => if foldN p.1 = g then some p.2 else acc) Option.none
theorem lastOf_nil (g : Nm) : lastOf [] g = Option.none := rfl
theorem lastOf_app (ps : List (Nm × Value)) (p : Nm × Value) (g : Nm) : lastOf (ps ++ [p]) g = if foldN p.1 = g then some p.2 else lastOf ps g := by
  simp [lastOf, List.foldl_append]

/-- what a tree has, where these were put -/
structure Hist (z : Value) (s : TS) (ps : List (Nm × Value)) : Prop where
  names : ∀ g, g ∈ s.names ↔ g = [] ∨ ∃ p ∈ ps, g <:+ foldN p.1
  val : ∀ g, s.val g = (lastOf ps g).getD z
  has : ∀ g, s.has g = (lastOf ps g).isSome

def shorts (k : Nat) (ps : List (Nm × Value)) : Prop := ∀ p ∈ ps, LB p.1 ∧ p.1.length ≤ k

theorem flat_len {α β : Type} {f : α → List β} {k : Nat} : ∀ (l : List α), (∀ a ∈ l, (f a).length ≤ k) → (l.flatMap f).length ≤ l.length * k
  | [], _ => by simp
  | a :: l, h => by
    have h1 := h a (List.mem_cons_self ..)
    have h2 := flat_len l (fun b hb => h b (List.mem_cons_of_mem _ hb))
    rw [List.flatMap_cons, List.length_append, List.length_cons, Nat.succ_mul]
    omega

theorem Hist.many {z : Value} {s : TS} {ps : List (Nm × Value)} (h : Hist z s ps) (hd : s.names.Nodup) {k : Nat} (hk : shorts k ps) : s.names.length ≤ 1 + ps.length * (k + 1) := by
  have := nodup_len (m := [] :: ps.flatMap fun p => (List.range (k + 1)).map fun i => sfx (foldN p.1) i) hd (fun g hg => by
    rcases (h.names g).1 hg with rfl | ⟨p, hp, hs⟩
    · exact List.mem_cons_self ..
    · refine List.mem_cons_of_mem _ (List.mem_flatMap.2 ⟨p, hp, List.mem_map.2 ⟨g.length, ?_, ?_⟩⟩)
      · have := hs.length_le
        rw [foldN_len] at this
        have := (hk p hp).2
        simp; omega
      · obtain ⟨q, hq⟩ := hs
        rw [← hq]; simp [sfx])
  rw [List.length_cons] at this
  have h2 := flat_len (f := fun p : Nm × Value => (List.range (k + 1)).map fun i => sfx (foldN p.1) i) (k := k + 1) ps (fun a _ => by simp)
  omega

theorem Hist.deep {z : Value} {s : TS} {ps : List (Nm × Value)} (h : Hist z s ps) {k : Nat} (hk : shorts k ps) : ∀ g ∈ s.names, g.length ≤ k ∧ LB g ∧ foldN g = g := by
  intro g hg
  rcases (h.names g).1 hg with rfl | ⟨p, hp, q, hq⟩
  · exact ⟨Nat.zero_le _, (fun l hl => by cases hl), rfl⟩
  · have h1 := (hk p hp).2
    have h2 : g = (foldN p.1).drop q.length := by rw [← hq]; simp
    refine ⟨?_, ?_, ?_⟩
    · rw [h2, List.length_drop, foldN_len]; omega
    · rw [h2]; exact (hk p hp).1.fold.drop _
    · rw [h2, ← foldN_drop, foldN_idem]
end Go.Proofs.Ytciadbhnodgpgaa
