/-
  Rows of cells that are read, texts and octets, what a call leaves alone.
  Conditions: none; these are lemmas over any program.
-/
import Derived.Test.YtciadbhnodgpgaaK4
import Derived.Laws.IdiomStrings
import Derived.Deep.AppendSrc
set_option linter.unusedVariables false
set_option linter.unusedSimpArgs false
set_option linter.defProp false
namespace Go.Proofs.Ytciadbhnodgpgaa
open Go

/-- v is a slice whose cells are l -/
def Row (w : World) (v : Value) (l : List Value) : Prop :=
  ∃ a c, v = .slice a l.length c ∧ l.length ≤ c ∧ ∀ j (h : j < l.length), cellO w (adr a j) = some l[j]

theorem cellO_keep {S : Nat → Prop} {w x : World} (hk : Keep S w x) {p : Option Addr} (hS : offS S p) {v : Value} (h : cellO w p = some v) : cellO x p = some v := by
  simp only [cellO, Option.bind_eq_some_iff] at h ⊢
  obtain ⟨a, rfl, h⟩ := h
  exact ⟨a, rfl, cell_keep hk (hS a rfl) h⟩

theorem cellO_ext {w x : World} (hk : Ext w x) {p : Option Addr} {v : Value} (h : cellO w p = some v) : cellO x p = some v :=
  cellO_keep hk (by simp [offS, NoS]) h

theorem Row.ext {w x : World} {v : Value} {l : List Value} (h : Row w v l) (hk : Ext w x) : Row x v l := by
  obtain ⟨a, c, rfl, hc, hl⟩ := h
  exact ⟨a, c, rfl, hc, fun j hj => cellO_ext hk (hl j hj)⟩

theorem some_of_cellO {w : World} {a : Option Addr} {k : Nat} {v : Value} (h : cellO w (adr a k) = some v) : a.isSome = true := by
  cases a with
  | none => simp [cellO, adr] at h
  | some a => rfl

theorem adr_add {a : Option Addr} {b o : Nat} (h : a = some ⟨b, o, Option.none⟩) (k : Nat) : adr a k = some ⟨b, o + k, Option.none⟩ := by rw [h, adr_some]

/-! new blocks -/
theorem Ext.alloc (w : World) (o : Obj) : Ext w (w.alloc o) := ⟨rfl, rfl, rfl, by simp, fun b hb _ => RowKit.Below.heap_alloc w o b hb, Nat.le_refl _⟩
theorem Ext.drew_alloc (w : World) (o : Obj) : Ext w (w.drew.alloc o) := ⟨rfl, rfl, rfl, by simp, fun b hb _ => RowKit.Below.heap_alloc w.drew o b hb, Nat.le_succ _⟩

/-- from a call's start on: what lay then lies as it lay -/
theorem Keep.to_ext {B : Nat} {w0 w x : World} (h0 : Ext w0 w) (hB : B = w0.heap.size) {S : Nat → Prop} (hS : ∀ b, S b → B ≤ b) (h : Keep S w x) : Ext w0 x :=
  ⟨h.os.trans h0.os, h.tape.trans h0.tape, h.output.trans h0.output, Nat.le_trans h0.size h.size,
   fun b hb _ => (h.block b (Nat.lt_of_lt_of_le hb h0.size) (fun hs => by have := hS b hs; omega)).trans (h0.block b hb (fun x => x)), Nat.le_trans h0.drawn h.drawn⟩

theorem wrap64 {x : Int} (h1 : -9223372036854775808 ≤ x) (h2 : x ≤ 9223372036854775807) : IntKind.i64.wrap x = x := by
  simp [IntKind.wrap, IntKind.bits, IntKind.signed]; omega
theorem wrap8 {x : Int} (h1 : 0 ≤ x) (h2 : x ≤ 255) : IntKind.u8.wrap x = x := by
  simp [IntKind.wrap, IntKind.bits, IntKind.signed]; omega

end Go.Proofs.Ytciadbhnodgpgaa
