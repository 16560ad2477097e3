/-
  Memory: blocks of one's own, appends, texts and octets, cuts.
  Conditions: none; these are lemmas over any program.
-/
import Derived.Test.YtciadbhnodgpgaaK7
import Derived.Test.YtciadbhnodgpgaaKD
import Derived.Laws.OwnMore
import Derived.Laws.MakeOwn
set_option linter.unusedVariables false
set_option linter.unusedSimpArgs false
set_option linter.defProp false
namespace Go.Proofs.Ytciadbhnodgpgaa
open Go

def byteV (c : UInt8) : Value := .int .u8 c.toNat

section
variable {P : Program} {d : Option Tmp} {ty : TypeId} {ps : String} {af : Array Edge} {g : Option (Nat × Bool)} {ρ : Operand → Value} {w : World} {K : Value → World → Prop}

theorem grown_keep {w w' : World} {row : Option Nat} (h : w.grownBy w' row) (hd : w.drawn ≤ w'.drawn) : Keep (fun b => some b = row) w w' := ⟨h.os, h.tape, h.output, h.size, h.block, hd⟩
theorem grown_ext {w w' : World} (h : w.grownBy w' Option.none) (hd : w.drawn ≤ w'.drawn) : Ext w w' := (grown_keep h hd).mono (fun _ _ h => by cases h)

/-- the value of a block of cells at a place -/
theorem cell_of {b : Nat} {cur : Array Value} {e : TypeId} {fr : Nat × Nat} (h : w.heap[b]? = some (.cells cur e fr)) (j : Nat) : w.cell? ⟨b, j, Option.none⟩ = cur[j]? := by
  simp [World.cell?, h]
theorem frozen_of {b : Nat} {cur : Array Value} {e : TypeId} {fr : Nat × Nat} (h : w.heap[b]? = some (.cells cur e fr)) (j : Nat) : w.frozen? ⟨b, j, Option.none⟩ = (decide (fr.1 ≤ j) && decide (j < fr.2)) := by
  obtain ⟨lo, hi⟩ := fr; simp [World.frozen?, h]

theorem set_keep (w : World) (b j : Nat) (v : Value) : Keep (fun i => i = b) w (w.setCell ⟨b, j, Option.none⟩ v) :=
  ⟨rfl, rfl, rfl, by simp, fun i _ hne => RowKit.Below.heap_setCell w _ v i hne, Nat.le_refl _⟩
theorem set_block {b j : Nat} {v : Value} {cur : Array Value} {e : TypeId} {fr : Nat × Nat} (h : w.heap[b]? = some (.cells cur e fr)) :
    (w.setCell ⟨b, j, Option.none⟩ v).heap[b]? = some (.cells (cur.setIfInBounds j v) e fr) := by
  simp [World.setCell, Array.getElem?_modify, h]

/-- a store of one cell into a block -/
theorem st_one {t : TypeId} {b j : Nat} {v : Value} {cur : Array Value} {e : TypeId} {fr : Nat × Nat} (hs : tyS P t = 1) (hi : (P.info? t).isSome = true) (hv : one v = true)
    (hb : w.heap[b]? = some (.cells cur e fr)) (hj : j < cur.size) (hf : fr.2 ≤ j ∨ j < fr.1)
    (h : ∀ w', w'.heap.size = w.heap.size → w'.heap[b]? = some (.cells (cur.setIfInBounds j v) e fr) → Keep (fun i => i = b) w w' → K undef w') :
    stK P t (.pointer (some ⟨b, j, Option.none⟩)) v w K := by
  have hc : v.cells = #[v] := by cases v <;> first | rfl | (simp [one] at hv)
  refine ⟨by rw [hc, hs]; rfl, hi, w.setCell ⟨b, j, Option.none⟩ v, ?_, h _ (by simp) (set_block hb) (set_keep w b j v)⟩
  rw [hc]
  have h1 : (w.cell? ⟨b, j, Option.none⟩).isSome = true := by rw [cell_of hb]; simp [hj]
  have h2 : w.frozen? ⟨b, j, Option.none⟩ = false := by
    rw [frozen_of hb]
    rcases hf with hf | hf
    · simp; omega
    · simp; omega
  simp [stC, addr_add, hv, h1, h2]

/-- a new block of cells -/
theorem new_block (w : World) (o : Obj) : (w.alloc o).heap[w.heap.size]? = some o := World.alloc_heap_new w o
theorem new_size (w : World) (o : Obj) : (w.alloc o).heap.size = w.heap.size + 1 := by simp

/-- a text made into octets -/
theorem conv_s2b {s t e : TypeId} {x : Operand} {l : List UInt8} (hs : tyU P s = some .string) (hd : tyU P t = some (.slice e)) (he : tyU P e = some (.int .u8)) (hx : ρ x = vs l)
    (h : ∀ (c : Nat) (cur : Array Value) (w' : World), l.length ≤ c → cur.size = c → cur.toList.take l.length = l.map byteV → Ext w w' → w'.heap.size = w.heap.size + 1 →
      w'.heap[w.heap.size]? = some (.cells cur e (c, c + 1)) → K (.slice (some ⟨w.heap.size, 0, Option.none⟩) l.length c) w') :
    optK (cvD (some .string) (some (.slice e)) (vs l)) w K (opW P ⟨d, .convert s t x, ty, ps, af, g⟩ ρ w K) := by
  have hrun := run_bytes_of_string (P := P) w s t e ⟨l.toArray⟩ hs hd he
  have hsz : (⟨l.toArray⟩ : ByteArray).size = l.length := rfl
  rw [hsz] at hrun
  have hge := grownCap_ge w l.length 0 e
  generalize grownCap w l.length 0 e = c at hrun hge
  have hbs : (bytesRow ⟨l.toArray⟩ c).size = c := by simp [bytesRow, hsz]; omega
  rw [hbs] at hrun
  show opR P K ((do pure (.value (← convert s t (ρ x))) : Sem Next).run P w)
  rw [hx]
  refine opR_val hrun (h c _ _ hge hbs ?_ (Ext.drew_alloc w _) (by simp) (World.alloc_heap_new w.drew _))
  unfold bytesRow
  simp only [Array.toList_append, Array.toList_map]
  rw [List.take_append_of_le_length (by simp), List.take_of_length_le (by simp)]
  rfl

/-- octets made into a text -/
theorem conv_b2s {s t e : TypeId} {x : Operand} {a : Option Addr} {c : Nat} {l : List UInt8} (hs : tyU P s = some (.slice e)) (hd : tyU P t = some .string) (he : tyU P e = some (.int .u8))
    (hx : ρ x = .slice a l.length c) (hl : ∀ j (hj : j < l.length), cellO w (adr a j) = some (byteV l[j])) (h : K (vs l) w) :
    optK (cvD (some (.slice e)) (some .string) (.slice a l.length c)) w K (opW P ⟨d, .convert s t x, ty, ps, af, g⟩ ρ w K) := by
  show opR P K ((do pure (.value (← convert s t (ρ x))) : Sem Next).run P w)
  rw [hx]
  cases a with
  | none =>
    cases l with
    | nil =>
      refine opR_val (v := vs []) (w' := w) ?_ h
      simp [convert, underlying, program, Sem.run, show P.underlying s = _ from hs, show P.underlying t = _ from hd, show P.underlying e = _ from he, Conv.bytesToString]
      rfl
    | cons c l => have := hl 0 (by simp); simp [cellO, adr] at this
  | some a =>
    have := run_convert_bytes_back (P := P) w s t e a c l hs he hd (fun j hj => by
      have := hl j hj
      simpa [cellO, adr, byteV] using this)
    exact opR_val this h

/-- what an append takes: its cells -/
def Src1 (w : World) (u : Value) (m : Nat) (size : Nat) (news : List Value) : Prop :=
  ∃ a c, u = .slice a m c ∧ news.length = m * size ∧ ∀ j (h : j < news.length), cellO w (adr a j) = some news[j]

theorem Src1.of_row {u : Value} {l : List Value} (h : Row w u l) : Src1 w u l.length 1 l := by
  obtain ⟨a, c, rfl, _, hl⟩ := h
  exact ⟨a, c, rfl, by simp, hl⟩

theorem run_callBuiltin {b : Builtin} {s x : Operand} {ts : Array TypeId} {r : Result Value}
    (h : ∀ v w', (Builtin.append_ ts ty #[ρ s, ρ x]).run P w = .ok v w' → K v w') (hr : ∃ v w', (Builtin.append_ ts ty #[ρ s, ρ x]).run P w = .ok v w') :
    opW P ⟨d, .call ⟨.builtin .append, #[s, x], ts⟩, ty, ps, af, g⟩ ρ w K := by
  obtain ⟨v, w', hv⟩ := hr
  simp only [opW, execOp, Sem.run_bind, resolve]
  simp only [Sem.run_pure, Result.andThen_ok, invoke, builtin]
  exact opR_val (s := Builtin.append_ ts ty (Array.map ρ #[s, x])) (by simpa using hv) (h v w' hv)

/-- an append onto a row of one's own -/
theorem op_append {B : Nat} {s x : Operand} {t e : TypeId} {inf : TypeInfo} {z : Value} {size bytes : Nat} (ht : tyU P t = some (.slice e)) (hi : P.info? e = some inf) (hz : inf.zero = some z)
    (hsize : inf.size = size) (hby : inf.bytes = bytes) (hzs : z.cells.size = size) (hsz : 0 < size) {v u : Value} (hv : ρ s = v) (hu : ρ x = u) {n m : Nat} {xs news : List Value}
    (hown : w.ownsRow B e size v n xs) (hsrc : Src1 w u m size news) (h1 : ∀ q ∈ news, one q = true) (h63 : n + m ≤ maxLen) (hbytes : (n + m) * bytes ≤ 140737488355328) (hB : B ≤ w.heap.size)
    (h : ∀ v' w', w'.ownsRow B e size v' (n + m) (xs ++ news) → Keep (fun b => some b = v.ownBlock) w w' → ((v' = .slice Option.none 0 0 ↔ v = .slice Option.none 0 0 ∧ m = 0) ∧ ∀ b, some b = v'.ownBlock → some b = v.ownBlock ∨ w.heap.size ≤ b) → K v' w') :
    opW P ⟨d, .call ⟨.builtin .append, #[s, x], #[t, t]⟩, ty, ps, af, g⟩ ρ w K := by
  obtain ⟨a, c, rfl, hl, hc⟩ := hsrc
  have h1' : ∀ q ∈ news, q.oneCell' = true := fun q hq => by
    have := h1 q hq
    cases q <;> first | rfl | (simp [one] at this)
  have key : ∃ v' w', (Builtin.append_ #[t, t] ty #[v, .slice a m c]).run P w = .ok v' w' ∧ w'.ownsRow B e size v' (n + m) (xs ++ news) ∧ w.grownBy w' v.ownBlock ∧
      (v' = .slice Option.none 0 0 ↔ v = .slice Option.none 0 0 ∧ m = 0) := by
    cases a with
    | some a =>
      exact run_append_own (P := P) w B t ty e inf z size bytes ht hi hz hsize hby hzs hsz v n xs hown a m c news hl (fun j q hj => by
        obtain ⟨hlt, rfl⟩ := List.getElem?_eq_some_iff.1 hj
        have := hc j hlt
        simpa [cellO, adr] using this) h1' h63 hbytes hB
    | none =>
      have hn0 : news = [] := by
        cases news with
        | nil => rfl
        | cons q r => have := hc 0 (by simp); simp [cellO, adr] at this
      subst hn0
      have hm0 : m = 0 := by
        rcases Nat.mul_eq_zero.1 hl.symm with h | h
        · exact h
        · omega
      subst hm0
      refine ⟨v, w, ?_, by simpa using hown, ⟨rfl, rfl, rfl, Nat.le_refl _, fun _ _ _ => rfl⟩, by simp⟩
      have hs' : inf.size = size := hsize
      rcases hown.2 with ⟨rfl, rfl⟩ | ⟨g, cap, cur, rfl, _, _, hnc, _⟩
      · simp [Builtin.append_, underlying, program, Sem.run, show P.underlying t = _ from ht, sizeOf, typeInfo, hi, Builtin.lenOf, Builtin.firstCells]
      · simp [Builtin.append_, underlying, program, Sem.run, show P.underlying t = _ from ht, sizeOf, typeInfo, hi, Builtin.lenOf, Builtin.firstCells, hnc, storeCells]
  obtain ⟨v', w', hr, h2, h3, h4⟩ := key
  refine run_callBuiltin (b := .append) (r := .ok v' w') (fun v1 w1 hr1 => ?_) ⟨v', w', by rw [hv, hu]; exact hr⟩
  rw [hv, hu, hr] at hr1
  cases hr1
  refine h v' w' h2 (grown_keep h3 (run_drawn _ _ _ _ hr)) ⟨h4, fun b hb => ?_⟩
  cases a with
  | none =>
    have : v' = v := by
      have hn0 : news = [] := by
        cases news with
        | nil => rfl
        | cons q r => have := hc 0 (by simp); simp [cellO, adr] at this
      subst hn0
      have hm0 : m = 0 := by
        rcases Nat.mul_eq_zero.1 hl.symm with h | h
        · exact h
        · omega
      subst hm0
      have hx := hown.2
      rcases hown.2 with ⟨rfl, rfl⟩ | ⟨g, cap, cur, rfl, _, _, hnc, _⟩
      · simp [Builtin.append_, underlying, program, Sem.run, show P.underlying t = _ from ht, sizeOf, typeInfo, hi, Builtin.lenOf, Builtin.firstCells] at hr
        exact hr.1.symm
      · simp [Builtin.append_, underlying, program, Sem.run, show P.underlying t = _ from ht, sizeOf, typeInfo, hi, Builtin.lenOf, Builtin.firstCells, hnc, storeCells] at hr
        exact hr.1.symm
    exact .inl (this ▸ hb)
  | some a =>
    have hnews : ∀ j u, news[j]? = some u → w.cell? (a.add j) = some u := fun j q hj => by
      obtain ⟨hlt, rfl⟩ := List.getElem?_eq_some_iff.1 hj
      have := hc j hlt
      simpa [cellO, adr] using this
    rcases hown.2 with ⟨rfl, rfl⟩ | ⟨g, cap, cur, rfl, hbg, hg, hnc, hcm, hcs, htake⟩
    · obtain ⟨v2, w2, k1, k2, _⟩ := run_append_own (P := P) w w.heap.size t ty e inf z size bytes ht hi hz hsize hby hzs hsz _ 0 xs (⟨hown.1, .inl ⟨rfl, rfl⟩⟩) a m c news hl hnews h1' h63 hbytes (Nat.le_refl _)
      rw [k1] at hr
      cases hr
      rcases k2.2 with ⟨rfl, _⟩ | ⟨g, cap, cur, rfl, hg, _⟩
      · cases hb
      · cases hb; exact .inr hg
    · by_cases hroom : n + m ≤ cap
      · obtain ⟨w2, k1, _⟩ := run_append_fits (P := P) w B t ty e inf size ht hi hsize g n cap xs hown a m c news hl hnews h1' hroom
        rw [k1] at hr
        cases hr
        exact .inl hb
      · have holds : ∀ j u, xs[j]? = some u → w.cell? ((⟨g, 0, Option.none⟩ : Addr).add j) = some u := hown.cells (g := g) rfl
        subst hsize hby
        have k1 := run_append_grow (P := P) w t ty e inf z ht hi hz ⟨g, 0, Option.none⟩ n cap xs hown.1 holds a m c news hl hnews (by omega) (by simp only [maxLen] at h63; omega) (growslice_fits (by omega) hbytes)
        rw [k1] at hr
        cases hr
        cases hb
        exact .inr (Nat.le_refl _)

end
end Go.Proofs.Ytciadbhnodgpgaa
