/-
  Trees in use, at elements of type string: what was put, what is there.
  Conditions: none.
-/
import Derived.Test.YtciadbhnodgpgaaH0
import Derived.Test.YtciadbhnodgpgaaT3string
set_option linter.unusedVariables false
set_option linter.unusedSimpArgs false
set_option linter.defProp false
namespace Go.Proofs.Ytciadbhnodgpgaa.T_string
open Go Go.Proofs.Ytciadbhnodgpgaa
set_option maxRecDepth 10000

structure TI (w0 w : World) (tb : Nat) (s : TS) (ps : List (Nm × Value)) : Prop where
  lies : TAt w tb s
  ok : TOk s
  hist : Hist (vs []) s ps
  new : ∀ b, tblk tb s b → w0.heap.size ≤ b
  ext : Ext w0 w

theorem TI.on {w0 w x : World} {tb : Nat} {s : TS} {ps : List (Nm × Value)} (h : TI w0 w tb s ps) (hE : Ext w x) : TI w0 x tb s ps :=
  ⟨h.lies.ext hE, h.ok, h.hist, h.new, h.ext.trans hE⟩
theorem TI.lt {w0 w : World} {tb : Nat} {s : TS} {ps : List (Nm × Value)} (h : TI w0 w tb s ps) : ∀ b, tblk tb s b → b < w.heap.size := fun _ hb => h.lies.lt hb

theorem New_ti (w0 w : World) (hE : Ext w0 w) : Fn Try.prog 21 #[] w (fun v w' => Ext w w' ∧ ∃ tb s, v = ptrOf tb ∧ TI w0 w' tb s [] ∧ ∀ b, tblk tb s b → w.heap.size ≤ b) := by
  refine Fn.mono (New_ok w) ?_
  rintro _ w' ⟨rfl, hE', hok, hat⟩
  refine ⟨hE', _, _, rfl, ⟨hat, hok, ⟨fun g => ?_, fun g => rfl, fun g => rfl⟩, fun b hb => ?_, hE.trans hE'⟩, fun b hb => ?_⟩
  · simp [ts0]
  · have := hE.size
    rcases hb with rfl | ⟨g, _, rfl | rfl⟩ <;> (try simp only [ts0]) <;> omega
  · rcases hb with rfl | ⟨g, _, rfl | rfl⟩ <;> (try simp only [ts0]) <;> omega

/-- a row that no Put turns -/
def Still (tb : Nat) (s : TS) (w : World) (nv : Value) (l : List Value) : Prop := ∀ A, Keep (tblk tb s) w A → Row A nv l
theorem TI.still {w0 w : World} {tb : Nat} {s : TS} {ps : List (Nm × Value)} (h : TI w0 w tb s ps) {nv : Value} {l : List Value} (hr : Row w0 nv l) : Still tb s w nv l := fun _ hA => hr.ext (Keep.to_ext h.ext rfl h.new hA)
theorem Still.of_row {tb : Nat} {s : TS} {w : World} {nv : Value} {l : List Value} (h : RowZ 0 (tblk tb s) w nv l) : Still tb s w nv l := fun _ hA => (h.turn hA (fun _ h => .inl h)).1

theorem Put_ti {w0 w : World} {tb : Nat} {s : TS} {ps : List (Nm × Value)} {n : Nm} {nv v : Value} (h : TI w0 w tb s ps) (hr : Still tb s w nv (n.map vs)) (hn : LB n) (hlen : n.length ≤ 9000000000000000000) (hv : one v = true) :
    Fn Try.prog 22 #[ptrOf tb, nv, v] w (fun _ w' => ∃ s', TI w0 w' tb s' (ps ++ [(n, v)]) ∧ Keep (tblk tb s) w w' ∧ (∀ b, tblk tb s' b → tblk tb s b ∨ w.heap.size ≤ b)) := by
  refine Fn.mono (Put_ok h.lies h.ok hr hn hlen hv) ?_
  rintro _ w' ⟨s', hok, hat, hput, hk, hb⟩
  refine ⟨s', ⟨hat, hok, ⟨fun g => ?_, fun g => ?_, fun g => ?_⟩, fun b hb' => ?_, Keep.to_ext h.ext rfl h.new hk⟩, hk, hb⟩
  · rw [hput.names, h.hist.names]
    constructor
    · rintro ((rfl | ⟨p, hp, hs⟩) | hs)
      · exact .inl rfl
      · exact .inr ⟨p, List.mem_append_left _ hp, hs⟩
      · exact .inr ⟨(n, v), by simp, hs⟩
    · rintro (rfl | ⟨p, hp, hs⟩)
      · exact .inl (.inl rfl)
      · rcases List.mem_append.1 hp with hp | hp
        · exact .inl (.inr ⟨p, hp, hs⟩)
        · rw [List.mem_singleton.1 hp] at hs; exact .inr hs
  · rw [hput.val, lastOf_app]
    by_cases e : foldN n = g
    · rw [if_pos e.symm, if_pos e]; rfl
    · rw [if_neg (fun x => e x.symm), if_neg e]; exact h.hist.val g
  · rw [hput.has, lastOf_app]
    by_cases e : foldN n = g
    · rw [if_pos e.symm, if_pos e]; rfl
    · rw [if_neg (fun x => e x.symm), if_neg e]; exact h.hist.has g
  · rcases hb b hb' with h' | h'
    · exact h.new b h'
    · have := h.ext.size; omega

theorem TI.lens {w0 w : World} {tb : Nat} {s : TS} {ps : List (Nm × Value)} (h : TI w0 w tb s ps) {k : Nat} (hk : shorts k ps) (hk1 : k ≤ 1000) (hp : ps.length ≤ 1000) : s.names.length ≤ 1002001 := by
  have := h.hist.many h.ok.nd hk
  have h2 : ps.length * (k + 1) ≤ 1000 * 1001 := Nat.mul_le_mul hp (by omega)
  omega

end Go.Proofs.Ytciadbhnodgpgaa.T_string
