/-
  All names of a tree, in order; rows that an iterator lays.
  Conditions: none; plain facts.
-/
import Derived.Test.YtciadbhnodgpgaaS1
import Derived.Test.YtciadbhnodgpgaaK13
set_option linter.unusedVariables false
set_option linter.unusedSimpArgs false
set_option linter.defProp false
namespace Go.Proofs.Ytciadbhnodgpgaa
open Go

/-- a name, and all that are below it, in order -/
def allN (names : List Nm) : Nat → Nm → List Nm
  | 0, f => [f]
  | k + 1, f => f :: ((sortK (kidsOf names f)).map fun l => allN names k (l :: f)).flatten

/-- a row that the iterator laid: none of the consumer's -/
def RowZ (n1 : Nat) (U : Nat → Prop) (w : World) (v : Value) (l : List Value) : Prop :=
  Row w v l ∧ ∀ a n c, v = .slice (some a) n c → n1 ≤ a.block ∧ a.block < w.heap.size ∧ ¬ U a.block

def encN (B : Nat) (x : Nm) (U : Nat → Prop) (A : World) (args : Array Value) : Prop := ∃ nv, args = #[nv] ∧ RowZ B U A nv (x.map vs)
theorem RowZ.low {n1 n2 : Nat} {U : Nat → Prop} {w : World} {v : Value} {l : List Value} (h : RowZ n1 U w v l) (hn : n2 ≤ n1) : RowZ n2 U w v l := ⟨h.1, fun a n c hv => ⟨Nat.le_trans hn (h.2 a n c hv).1, (h.2 a n c hv).2⟩⟩

theorem KeepR.of_ext {n0 n1 : Nat} {X : Nat → Prop} {A B : World} (h : Ext A B) : KeepR n0 n1 X A B := ⟨h.os, h.tape, h.output, h.size, fun b hb _ _ => h.block b hb (fun h => h), h.drawn⟩
theorem KeepR.next {n0 n1 : Nat} {C U U' : Nat → Prop} {A B D : World} (h : KeepR n0 n1 (fun b => C b ∨ U b) A B) (hU : ∀ b, U' b → U b ∨ (A.heap.size ≤ b ∧ b < B.heap.size)) (k : KeepR n0 n1 (fun b => C b ∨ U' b) B D) : KeepR n0 n1 (fun b => C b ∨ U b) A D :=
  ⟨k.os.trans h.os, k.tape.trans h.tape, k.output.trans h.output, Nat.le_trans h.size k.size, fun b hb hor hn => by
    refine (k.block b (Nat.lt_of_lt_of_le hb h.size) hor (fun hc => ?_)).trans (h.block b hb hor hn)
    rcases hc with hc | hc
    · exact hn (.inl hc)
    · rcases hU b hc with h' | h'
      · exact hn (.inr h')
      · omega, Nat.le_trans h.drawn k.drawn⟩

theorem RowZ.keep {n0 n1 : Nat} {C U U' : Nat → Prop} {A B : World} {v : Value} {l : List Value} (h : RowZ n1 U A v l) (hk : KeepR n0 n1 (fun b => C b ∨ U b) A B) (hC : ∀ b, C b → b < n1) (hU : ∀ b, U' b → U b ∨ (A.heap.size ≤ b ∧ b < B.heap.size)) : RowZ n1 U' B v l := by
  refine ⟨h.1.blocks (fun a n c hv => ?_), fun a n c hv => ?_⟩
  · obtain ⟨h1, h2, h3⟩ := h.2 a n c hv
    exact hk.block _ h2 (.inr h1) (fun hc => by
      rcases hc with hc | hc
      · have := hC _ hc; omega
      · exact h3 hc)
  · obtain ⟨h1, h2, h3⟩ := h.2 a n c hv
    have := hk.size
    refine ⟨h1, by omega, fun hc => ?_⟩
    rcases hU _ hc with h' | h'
    · exact h3 h'
    · omega

theorem RowZ.of_base {n1 B : Nat} {U : Nat → Prop} {w : World} {v : Value} {l : List Value} (h : RowB B w v l) (hn : n1 ≤ B) (hU : ∀ b, U b → b < B) : RowZ n1 U w v l :=
  ⟨h.1, fun a n c hv => by obtain ⟨h1, h2⟩ := h.2 a n c hv; exact ⟨by omega, h2, fun h => by have := hU _ h; omega⟩⟩

theorem RowZ.ext {n1 : Nat} {U : Nat → Prop} {w x : World} {v : Value} {l : List Value} (h : RowZ n1 U w v l) (hE : Ext w x) : RowZ n1 U x v l :=
  ⟨h.1.ext hE, fun a n c hv => by obtain ⟨h1, h2, h3⟩ := h.2 a n c hv; exact ⟨h1, Nat.lt_of_lt_of_le h2 hE.size, h3⟩⟩

theorem KeepR.toB {n0 n1 : Nat} {C U : Nat → Prop} {W A B : World} (h : KeepR n0 n1 (fun b => C b ∨ U b) A B) (hW : KeepB n0 C W A) (hn : n0 ≤ A.heap.size) (hU : ∀ b, U b → n0 ≤ b) : KeepB n0 C W B :=
  hW.trans ⟨h.os, h.tape, h.output, h.size, fun b hb hc => h.block b (by omega) (.inl hb) (fun hx => by
    rcases hx with hx | hx
    · exact hc hx
    · have := hU b hx; omega), h.drawn⟩

end Go.Proofs.Ytciadbhnodgpgaa
