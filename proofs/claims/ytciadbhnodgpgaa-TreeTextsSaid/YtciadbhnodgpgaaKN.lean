/-
  Arguments opened: a name, a slice of names.
  Conditions: none; these are lemmas over any program.
-/
import Derived.Test.YtciadbhnodgpgaaKC
import Derived.Test.YtciadbhnodgpgaaN2
set_option linter.unusedVariables false
set_option linter.unusedSimpArgs false
set_option linter.defProp false
namespace Go.Proofs.Ytciadbhnodgpgaa
open Go
section
variable {H : Type} {enc : TypeId × Value → H} {P : Program} {w : World} {base : Nat} {sp : Nat → Bool} {held : Bool}

theorem rd_name {t e : TypeId} {v : Value} (h : Rd enc P w base sp held t v) (ht : P.underlying t = some (.slice e)) (hc : P.cellsOf e = 1) (he : P.underlying e = some .string) : ∃ n : Nm, Row w v (n.map vs) := by
  obtain ⟨vals, hr, hall, _⟩ := rd_slice h ht hc
  obtain ⟨m, rfl⟩ := list_of (f := vs) (fun u hu => by obtain ⟨s, h, _⟩ := rd_string (hall u hu) he; exact ⟨s, h⟩)
  exact ⟨m, hr⟩

theorem rd_names {t ts tb : TypeId} {v : Value} (h : Rd enc P w base sp held t v) (ht : P.underlying t = some (.slice ts)) (hc : P.cellsOf ts = 1) (ht2 : P.underlying ts = some (.slice tb)) (hc2 : P.cellsOf tb = 1) (he : P.underlying tb = some .string) :
    ∃ L : List Nm, NamesAt w v L := by
  obtain ⟨vals, hr, hall, _⟩ := rd_slice h ht hc
  have : ∃ L : List Nm, vals.length = L.length ∧ ∀ i (h : i < vals.length) (h' : i < L.length), Row w vals[i] (L[i].map vs) := by
    clear hr h
    induction vals with
    | nil => exact ⟨[], rfl, fun i h => by simp at h⟩
    | cons u vals ih =>
      obtain ⟨n, hn⟩ := rd_name (hall u (List.mem_cons_self ..)) ht2 hc2 he
      obtain ⟨L, h1, h2⟩ := ih (fun x hx => hall x (List.mem_cons_of_mem _ hx))
      refine ⟨n :: L, by simp [h1], fun i a b => ?_⟩
      cases i with
      | zero => exact hn
      | succ i => exact h2 i (by simpa using a) (by simpa using b)
  obtain ⟨L, h1, h2⟩ := this
  exact ⟨L, vals, hr, h1, h2⟩
end
end Go.Proofs.Ytciadbhnodgpgaa
