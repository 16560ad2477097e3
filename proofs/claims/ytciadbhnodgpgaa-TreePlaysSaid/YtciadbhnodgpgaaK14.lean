/-
  Rows of one's own, in short: literals, appends.
  Conditions: none; these are lemmas over any program.
-/
import Derived.Test.YtciadbhnodgpgaaK9
set_option linter.unusedVariables false
set_option linter.unusedSimpArgs false
set_option linter.defProp false
namespace Go.Proofs.Ytciadbhnodgpgaa
open Go

/-- v is a row of one's own, laid from B on, and its cells are l -/
def Own (B : Nat) (w : World) (e : TypeId) (v : Value) (l : List Value) : Prop := w.ownsRow B e 1 v l.length l

section
variable {P : Program} {d : Option Tmp} {ty : TypeId} {ps : String} {af : Array Edge} {g : Option (Nat × Bool)} {ρ : Operand → Value} {w : World} {K : Value → World → Prop}

theorem Own.slice {B : Nat} {e : TypeId} {v : Value} {l : List Value} (h : Own B w e v l) : ∃ a c, v = .slice a l.length c := by
  rcases h.2 with ⟨rfl, h0⟩ | ⟨g, cap, cur, rfl, _⟩
  · exact ⟨_, _, by rw [h0]⟩
  · exact ⟨_, _, rfl⟩
theorem Own.row {B : Nat} {e : TypeId} {v : Value} {l : List Value} (h : Own B w e v l) : Row w v l := Row.of_owns h
theorem Own.rowB {B : Nat} {e : TypeId} {v : Value} {l : List Value} (h : Own B w e v l) : RowB B w v l := RowB.of_owns h
theorem Own.nil (B : Nat) (w : World) (e : TypeId) : Own B w e (.slice Option.none 0 0) [] := ⟨rfl, .inl ⟨rfl, rfl⟩⟩
theorem Own.ge {B : Nat} {e : TypeId} {v : Value} {l : List Value} (h : Own B w e v l) {b : Nat} (hb : some b = v.ownBlock) : B ≤ b ∧ b < w.heap.size := by
  rcases h.2 with ⟨rfl, _⟩ | ⟨g, cap, cur, rfl, hg, hc, _⟩
  · cases hb
  · cases hb; exact ⟨hg, (Array.getElem?_eq_some_iff.1 hc).1⟩
theorem Own.keep {B : Nat} {e : TypeId} {v : Value} {l : List Value} {x : World} {S : Nat → Prop} (h : Own B w e v l) (hk : Keep S w x) (hS : ∀ b, some b = v.ownBlock → ¬ S b) : Own B x e v l := by
  obtain ⟨h1, h2⟩ := h
  refine ⟨h1, ?_⟩
  rcases h2 with h2 | ⟨g, cap, cur, hv, hb, hg, rest⟩
  · exact .inl h2
  · exact .inr ⟨g, cap, cur, hv, hb, (hk.block _ (Array.getElem?_eq_some_iff.1 hg).1 (hS _ (by rw [hv]; rfl))).trans hg, rest⟩
theorem Own.ext {B : Nat} {e : TypeId} {v : Value} {l : List Value} {x : World} (h : Own B w e v l) (hk : Ext w x) : Own B x e v l := h.keep hk (fun _ _ h => h)
theorem Own.mono {B B' : Nat} {e : TypeId} {v : Value} {l : List Value} (h : Own B w e v l) (hB : B' ≤ B) : Own B' w e v l := by
  obtain ⟨h1, h2⟩ := h
  refine ⟨h1, ?_⟩
  rcases h2 with h2 | ⟨g, cap, cur, hv, hb, rest⟩
  · exact .inl h2
  · exact .inr ⟨g, cap, cur, hv, by omega, rest⟩

/-- a literal of one element -/
theorem bs_one {t e : TypeId} {z v : Value} (hu : tyU P t = some (.slice e)) (hz : tyZ P e = some z) (hs : tyS P e = 1) (hz1 : z.cells = #[z]) (hv : v.cells = #[v])
    (h : ∀ w1, Ext w w1 → w1.heap.size = w.heap.size + 1 → Own w.heap.size w1 e (.slice (some ⟨w.heap.size, 0, Option.none⟩) 1 1) [v] → K (.slice (some ⟨w.heap.size, 0, Option.none⟩) 1 1) w1) : bsL P t 1 [(0, v)] w K .mk := by
  unfold bsL bsK
  rw [bsC_one hu hz hs hz1 hv]
  exact h _ (Ext.alloc w _) (new_size w _) ⟨rfl, .inr ⟨w.heap.size, 1, #[v], rfl, Nat.le_refl _, new_block w _, Nat.le_refl _, by decide, rfl, rfl⟩⟩

theorem set2 {A : Array Value} (h : A.size = 2) (u v : Value) : (A.setIfInBounds 0 u).setIfInBounds 1 v = #[u, v] := by
  obtain ⟨l⟩ := A
  match l, h with
  | [x, y], _ => rfl
/-- a literal of two elements -/
theorem bs_two {t e : TypeId} {z u v : Value} (hu : tyU P t = some (.slice e)) (hz : tyZ P e = some z) (hs : tyS P e = 1) (hz1 : z.cells = #[z]) (hu1 : u.cells = #[u]) (hv : v.cells = #[v])
    (h : ∀ w1, Ext w w1 → w1.heap.size = w.heap.size + 1 → Own w.heap.size w1 e (.slice (some ⟨w.heap.size, 0, Option.none⟩) 2 2) [u, v] → K (.slice (some ⟨w.heap.size, 0, Option.none⟩) 2 2) w1) : bsL P t 2 [(0, u), (1, v)] w K .mk := by
  unfold bsL bsK
  have : bsC P t 2 [(0, u), (1, v)] = some (e, #[u, v]) := by
    simp [bsC, hu, hz, hs, hz1, Instr.fill, hu1, hv]
    exact set2 (by simp) u v
  rw [this]
  exact h _ (Ext.alloc w _) (new_size w _) ⟨rfl, .inr ⟨w.heap.size, 2, #[u, v], rfl, Nat.le_refl _, new_block w _, Nat.le_refl _, by decide, rfl, rfl⟩⟩

/-- a literal of none -/
theorem bs_nil {t e : TypeId} {z : Value} (hu : tyU P t = some (.slice e)) (hz : tyZ P e = some z) (hs : tyS P e = 1) (hz1 : z.cells = #[z])
    (h : ∀ w1, Ext w w1 → w1.heap.size = w.heap.size + 1 → Own w.heap.size w1 e (.slice (some ⟨w.heap.size, 0, Option.none⟩) 0 0) [] → K (.slice (some ⟨w.heap.size, 0, Option.none⟩) 0 0) w1) : bsL P t 0 [] w K .mk := by
  unfold bsL bsK
  have : bsC P t 0 [] = some (e, #[]) := by simp [bsC, hu, hz, hs, hz1, Instr.fill]
  rw [this]
  exact h _ (Ext.alloc w _) (new_size w _) ⟨rfl, .inr ⟨w.heap.size, 0, #[], rfl, Nat.le_refl _, new_block w _, Nat.le_refl _, by decide, rfl, rfl⟩⟩

/-- an append onto a row of one's own -/
theorem op_app {B : Nat} {s x : Operand} {t e : TypeId} {inf : TypeInfo} {z : Value} {bytes : Nat} {v u : Value} {l news : List Value} (hown : Own B w e v l) (hrow : Row w u news)
    (ht : tyU P t = some (.slice e)) (hi : P.info? e = some inf) (hz : inf.zero = some z)
    (hsize : inf.size = 1) (hby : inf.bytes = bytes) (hzs : z.cells.size = 1) (hv : ρ s = v) (hu : ρ x = u) 
    (h1 : ∀ q ∈ news, one q = true) (hlen : l.length + news.length ≤ 1000000000000) (hbytes : bytes ≤ 100) (hB : B ≤ w.heap.size)
    (h : ∀ v' w', Own B w' e v' (l ++ news) → (∀ w0, Ext w0 w → w0.heap.size ≤ B → Ext w0 w') → Keep (fun b => some b = v.ownBlock) w w' → (∀ b, some b = v'.ownBlock → some b = v.ownBlock ∨ w.heap.size ≤ b) → K v' w') :
    opW P ⟨d, .call ⟨.builtin .append, #[s, x], #[t, t]⟩, ty, ps, af, g⟩ ρ w K := by
  refine op_append (B := B) (m := news.length) (xs := l) (n := l.length) ht hi hz hsize hby hzs (by decide) hv hu hown (Src1.of_row hrow) h1 (by simp [maxLen]; omega) ?_ hB ?_
  · have : (l.length + news.length) * bytes ≤ 1000000000000 * 100 := Nat.mul_le_mul hlen hbytes
    omega
  · intro v' w' ho hk hw
    refine h v' w' (by simpa [Own] using ho) (fun w0 hE hB0 => ?_) hk hw.2
    exact Keep.to_ext hE rfl (fun b hb => by have := (Own.ge (l := l) hown hb).1; omega) hk
end
attribute [go_sem] b_quo b_rem
end Go.Proofs.Ytciadbhnodgpgaa
