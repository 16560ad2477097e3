/-
  Arguments opened: a name, a slice of names.
  Conditions: none; these are lemmas over any program.
-/
import Derived.Test.YtciadbhnodgpgaaKC
import Derived.Test.YtciadbhnodgpgaaN2
set_option linter.unusedVariables false
set_option linter.unusedSimpArgs false
set_option linter.defProp false
namespace Go.Proofs.Ytciadbhnodgpgaa
open Go
section
variable {H : Type} {enc : TypeId × Value → H} {P : Program} {w : World} {base : Nat} {sp : Nat → Bool} {held : Bool}

/-- a name that a machine holds -/
structure NmOk (n : Nm) : Prop where
  lb : LB n
  len : n.length ≤ 100000000000000

theorem reach_lt : reachBytes < 140737488355328 := by decide

theorem rd_name {t e : TypeId} {v : Value} (h : Rd enc P w base sp held t v) (ht : P.underlying t = some (.slice e)) (hc : P.cellsOf e = 1) (he : P.underlying e = some .string) (hb : P.bytesOf e = 16) : ∃ n : Nm, Row w v (n.map vs) ∧ NmOk n := by
  obtain ⟨vals, hr, hall, hl⟩ := rd_slice h ht hc
  obtain ⟨m, rfl, hm⟩ := list_of (f := vs) (fun u hu => rd_string (hall u hu) he)
  have := reach_lt
  rw [hb] at hl
  exact ⟨m, hr, fun l hl => by have := hm l hl; omega, by simp at hl; omega⟩

theorem rd_names {t ts tb : TypeId} {v : Value} (h : Rd enc P w base sp held t v) (ht : P.underlying t = some (.slice ts)) (hc : P.cellsOf ts = 1) (ht2 : P.underlying ts = some (.slice tb)) (hc2 : P.cellsOf tb = 1) (he : P.underlying tb = some .string) (hb : P.bytesOf tb = 16) :
    ∃ L : List Nm, NamesAt w v L ∧ ∀ n ∈ L, NmOk n := by
  obtain ⟨vals, hr, hall, hlen0⟩ := rd_slice h ht hc
  have : ∃ L : List Nm, (vals.length = L.length ∧ ∀ i (h : i < vals.length) (h' : i < L.length), Row w vals[i] (L[i].map vs)) ∧ ∀ n ∈ L, NmOk n := by
    clear hr h hlen0
    induction vals with
    | nil => exact ⟨[], ⟨rfl, fun i h => by simp at h⟩, fun n h => by cases h⟩
    | cons u vals ih =>
      obtain ⟨n, hn, hok⟩ := rd_name (hall u (List.mem_cons_self ..)) ht2 hc2 he hb
      obtain ⟨L, ⟨h1, h2⟩, h3⟩ := ih (fun x hx => hall x (List.mem_cons_of_mem _ hx))
      refine ⟨n :: L, ⟨by simp [h1], fun i a b => ?_⟩, fun x hx => ?_⟩
      · cases i with
        | zero => exact hn
        | succ i => exact h2 i (by simpa using a) (by simpa using b)
      · rcases List.mem_cons.1 hx with rfl | hx
        · exact hok
        · exact h3 x hx
  obtain ⟨L, ⟨h1, h2⟩, h3⟩ := this
  exact ⟨L, ⟨vals, hr, h1, h2⟩, h3⟩
end
end Go.Proofs.Ytciadbhnodgpgaa
