/-
  Memory again: slices made, rows out of rows of one's own.
  Conditions: none; these are lemmas over any program.
-/
import Derived.Test.YtciadbhnodgpgaaK8
set_option linter.unusedVariables false
set_option linter.unusedSimpArgs false
set_option linter.defProp false
namespace Go.Proofs.Ytciadbhnodgpgaa
open Go

section
variable {P : Program} {d : Option Tmp} {ty : TypeId} {ps : String} {af : Array Edge} {g : Option (Nat × Bool)} {ρ : Operand → Value} {w : World} {K : Value → World → Prop}

theorem Row.of_owns {B : Nat} {e : TypeId} {v : Value} {n : Nat} {xs : List Value} (h : w.ownsRow B e 1 v n xs) : Row w v xs := by
  obtain ⟨hl, h⟩ := h
  rw [Nat.mul_one] at hl
  rcases h with ⟨rfl, rfl⟩ | ⟨g, cap, cur, rfl, _, hg, hn, _, hcs, hx⟩
  · have : xs = [] := List.length_eq_zero_iff.1 hl
    subst this
    exact ⟨Option.none, 0, rfl, Nat.le_refl _, fun j h => by simp at h⟩
  · refine ⟨_, _, by rw [hl], by omega, fun j hj => ?_⟩
    rw [adr_some]
    show w.cell? _ = _
    rw [cell_of hg, ← Array.getElem?_toList, Nat.zero_add]
    have : xs[j]? = some xs[j] := List.getElem?_eq_getElem hj
    rw [← this, ← hx, List.getElem?_take, if_pos (by omega)]

/-- a row that lies in a block laid from base on -/
def RowB (base : Nat) (w : World) (v : Value) (l : List Value) : Prop := Row w v l ∧ ∀ a n c, v = .slice (some a) n c → base ≤ a.block ∧ a.block < w.heap.size
theorem RowB.of_owns {B : Nat} {e : TypeId} {v : Value} {n : Nat} {xs : List Value} (h : w.ownsRow B e 1 v n xs) : RowB B w v xs := by
  refine ⟨Row.of_owns h, fun a m c hv => ?_⟩
  rcases h.2 with ⟨h1, _⟩ | ⟨g, cap, cur, h1, hg, hb, _⟩
  · rw [h1] at hv; cases hv
  · rw [h1] at hv; cases hv; exact ⟨hg, (Array.getElem?_eq_some_iff.1 hb).1⟩
theorem RowB.mono {B B' : Nat} {v : Value} {l : List Value} (h : RowB B w v l) (hB : B' ≤ B) : RowB B' w v l := ⟨h.1, fun a n c hv => ⟨Nat.le_trans hB (h.2 a n c hv).1, (h.2 a n c hv).2⟩⟩
theorem Row.blocks {x : World} {v : Value} {l : List Value} (h : Row w v l) (hb : ∀ a n c, v = .slice (some a) n c → x.heap[a.block]? = w.heap[a.block]?) : Row x v l := by
  obtain ⟨a, c, rfl, hc, hl⟩ := h
  refine ⟨a, c, rfl, hc, fun j hj => ?_⟩
  cases a with
  | none => exact hl j hj
  | some a =>
    have := hb a _ _ rfl
    have h2 := hl j hj
    show x.cell? (a.add j) = _
    have hbl : (a.add j).block = a.block := by unfold Addr.add; split <;> rfl
    rw [World.cell?_of_block (w := w) (by rw [hbl]; exact this)]
    exact h2

theorem op_makeSlice {t e : TypeId} {x y : Operand} {inf : TypeInfo} {z : Value} {n : Nat} (ht : tyU P t = some (.slice e)) (hi : P.info? e = some inf) (hz : inf.zero = some z) (hsize : inf.size = 1)
    (hx : ρ x = vi n) (hy : ρ y = vi n) (hbytes : inf.bytes * n ≤ 281474976710656) (h63 : n ≤ 9223372036854775807) (hz1 : z.cells = #[z])
    (h : K (.slice (some ⟨w.heap.size, 0, Option.none⟩) n n) (w.alloc (.cells (madeCells #[z] n) e))) :
    opW P ⟨d, .makeSlice t x y, ty, ps, af, g⟩ ρ w K := by
  have hb' : (inf.bytes : Int) * (n : Int) ≤ 281474976710656 := by
    have h : ((inf.bytes * n : Nat) : Int) ≤ 281474976710656 := by omega
    rwa [Int.natCast_mul] at h
  have hr := run_make (P := P) w t e inf z ht hi hz .i64 .i64 (n : Int) (n : Int) (by omega) (Int.le_refl _) hb' (by omega)
  simp only [Int.toNat_natCast, hsize, Nat.mul_one, hz1] at hr
  show opR P K _
  refine opR_val (s := Instr.makeSlice t (ρ x) (ρ y)) (by rw [hx, hy]; exact hr) h

theorem set1 {A : Array Value} (h : A.size = 1) (v : Value) : A.setIfInBounds 0 v = #[v] := by
  obtain ⟨l⟩ := A
  match l, h with
  | [x], _ => rfl
theorem bsC_one {t e : TypeId} {z v : Value} (hu : tyU P t = some (.slice e)) (hz : tyZ P e = some z) (hs : tyS P e = 1) (hz1 : z.cells = #[z]) (hv : v.cells = #[v]) :
    bsC P t 1 [(0, v)] = some (e, #[v]) := by
  simp [bsC, hu, hz, hs, hz1, Instr.fill, hv]
  exact set1 (by simp) v
end
end Go.Proofs.Ytciadbhnodgpgaa
