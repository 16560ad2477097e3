/-
  Trees in use, at elements of type int: what was put, what is there.
  Conditions: none.
-/
import Derived.Test.YtciadbhnodgpgaaH0
import Derived.Test.YtciadbhnodgpgaaT3int
import Derived.Test.YtciadbhnodgpgaaT6int
set_option linter.unusedVariables false
set_option linter.unusedSimpArgs false
set_option linter.defProp false
namespace Go.Proofs.Ytciadbhnodgpgaa.T_int
open Go Go.Proofs.Ytciadbhnodgpgaa
set_option maxRecDepth 10000

structure TI (w0 w : World) (tb : Nat) (s : TS) (ps : List (Nm × Value)) : Prop where
  lies : TAt w tb s
  ok : TOk s
  hist : Hist (.int .i64 0) s ps
  new : ∀ b, tblk tb s b → w0.heap.size ≤ b
  ext : Ext w0 w

theorem TI.on {w0 w x : World} {tb : Nat} {s : TS} {ps : List (Nm × Value)} (h : TI w0 w tb s ps) (hE : Ext w x) : TI w0 x tb s ps :=
  ⟨h.lies.ext hE, h.ok, h.hist, h.new, h.ext.trans hE⟩
theorem TI.lt {w0 w : World} {tb : Nat} {s : TS} {ps : List (Nm × Value)} (h : TI w0 w tb s ps) : ∀ b, tblk tb s b → b < w.heap.size := fun _ hb => h.lies.lt hb

theorem New_ti (w0 w : World) (hE : Ext w0 w) : Fn Try.prog 9 #[] w (fun v w' => Ext w w' ∧ ∃ tb s, v = ptrOf tb ∧ TI w0 w' tb s [] ∧ ∀ b, tblk tb s b → w.heap.size ≤ b) := by
  refine Fn.mono (New_ok w) ?_
  rintro _ w' ⟨rfl, hE', hok, hat⟩
  refine ⟨hE', _, _, rfl, ⟨hat, hok, ⟨fun g => ?_, fun g => rfl, fun g => rfl⟩, fun b hb => ?_, hE.trans hE'⟩, fun b hb => ?_⟩
  · simp [ts0]
  · have := hE.size
    rcases hb with rfl | ⟨g, _, rfl | rfl⟩ <;> (try simp only [ts0]) <;> omega
  · rcases hb with rfl | ⟨g, _, rfl | rfl⟩ <;> (try simp only [ts0]) <;> omega

/-- a row that no Put turns -/
def Still (tb : Nat) (s : TS) (w : World) (nv : Value) (l : List Value) : Prop := ∀ A, Keep (tblk tb s) w A → Row A nv l
theorem TI.still {w0 w : World} {tb : Nat} {s : TS} {ps : List (Nm × Value)} (h : TI w0 w tb s ps) {nv : Value} {l : List Value} (hr : Row w0 nv l) : Still tb s w nv l := fun _ hA => hr.ext (Keep.to_ext h.ext rfl h.new hA)
theorem Still.of_row {tb : Nat} {s : TS} {w : World} {nv : Value} {l : List Value} (h : RowZ 0 (tblk tb s) w nv l) : Still tb s w nv l := fun _ hA => (h.turn hA (fun _ h => .inl h)).1

theorem Put_ti {w0 w : World} {tb : Nat} {s : TS} {ps : List (Nm × Value)} {n : Nm} {nv v : Value} (h : TI w0 w tb s ps) (hr : Still tb s w nv (n.map vs)) (hn : LB n) (hlen : n.length ≤ 9000000000000000000) (hv : one v = true) :
    Fn Try.prog 10 #[ptrOf tb, nv, v] w (fun _ w' => ∃ s', TI w0 w' tb s' (ps ++ [(n, v)]) ∧ Keep (tblk tb s) w w' ∧ (∀ b, tblk tb s' b → tblk tb s b ∨ w.heap.size ≤ b)) := by
  refine Fn.mono (Put_ok h.lies h.ok hr hn hlen hv) ?_
  rintro _ w' ⟨s', hok, hat, hput, hk, hb⟩
  refine ⟨s', ⟨hat, hok, ⟨fun g => ?_, fun g => ?_, fun g => ?_⟩, fun b hb' => ?_, Keep.to_ext h.ext rfl h.new hk⟩, hk, hb⟩
  · rw [hput.names, h.hist.names]
    constructor
    · rintro ((rfl | ⟨p, hp, hs⟩) | hs)
      · exact .inl rfl
      · exact .inr ⟨p, List.mem_append_left _ hp, hs⟩
      · exact .inr ⟨(n, v), by simp, hs⟩
    · rintro (rfl | ⟨p, hp, hs⟩)
      · exact .inl (.inl rfl)
      · rcases List.mem_append.1 hp with hp | hp
        · exact .inl (.inr ⟨p, hp, hs⟩)
        · rw [List.mem_singleton.1 hp] at hs; exact .inr hs
  · rw [hput.val, lastOf_app]
    by_cases e : foldN n = g
    · rw [if_pos e.symm, if_pos e]; rfl
    · rw [if_neg (fun x => e x.symm), if_neg e]; exact h.hist.val g
  · rw [hput.has, lastOf_app]
    by_cases e : foldN n = g
    · rw [if_pos e.symm, if_pos e]; rfl
    · rw [if_neg (fun x => e x.symm), if_neg e]; exact h.hist.has g
  · rcases hb b hb' with h' | h'
    · exact h.new b h'
    · have := h.ext.size; omega

theorem TI.other {w0 w w' : World} {tb : Nat} {s : TS} {ps : List (Nm × Value)} {S : Nat → Prop} (h : TI w0 w tb s ps) (hk : Keep S w w') (hS : ∀ b, tblk tb s b → ¬ S b) (hE : Ext w0 w') : TI w0 w' tb s ps :=
  ⟨h.lies.keep (fun b hb => hk.block b (h.lt b hb) (hS b hb)), h.ok, h.hist, h.new, hE⟩

theorem TI.lens {w0 w : World} {tb : Nat} {s : TS} {ps : List (Nm × Value)} (h : TI w0 w tb s ps) {k : Nat} (hk : shorts k ps) (hk1 : k ≤ 1000) (hp : ps.length ≤ 1000) : s.names.length ≤ 1002001 := by
  have := h.hist.many h.ok.nd hk
  have h2 : ps.length * (k + 1) ≤ 1000 * 1001 := Nat.mul_le_mul hp (by omega)
  omega

theorem TI.small {w0 w : World} {tb : Nat} {s : TS} {ps : List (Nm × Value)} (h : TI w0 w tb s ps) {k : Nat} (hk : shorts k ps) (hk1 : k ≤ 1000) (hp : ps.length ≤ 1000) : Small s :=
  ⟨fun g hg => (h.hist.deep hk g hg).2.2, fun g hg => (h.hist.deep hk g hg).2.1, by have := h.lens hk hk1 hp; omega⟩

/-- all names, in order -/
theorem Names_ti {w0 w : World} {tb : Nat} {s : TS} {ps : List (Nm × Value)} (h : TI w0 w tb s ps) {k : Nat} (hk : shorts k ps) (hk1 : k ≤ 1000) (hp : ps.length ≤ 1000) :
    Fn Try.prog 12 #[ptrOf tb] w (fun v w' => Ext w w' ∧ ∃ L, NamesAt w' v L ∧ Rise L ∧ (∀ g, g ∈ L ↔ g ∈ s.names) ∧ L.length = s.names.length) := by
  have hd := h.hist.deep hk
  have hl := h.lens hk hk1 hp
  obtain ⟨h1, h2, h3⟩ := allN_root h.ok.tail h.ok.nd (k := k + 1) h.ok.nil (fun g hg => by have := (hd g hg).1; omega)
  refine Fn.mono (Names_ok (fuel := k + 1) h.lies h.ok (h.small hk hk1 hp) (fun g hg => by have := (hd g hg).1; omega) (fun g hg => by have := (hd g hg).1; omega) (by omega)) ?_
  rintro v w' ⟨hE, hN⟩
  exact ⟨hE, _, hN, h1, h2, h3⟩
end Go.Proofs.Ytciadbhnodgpgaa.T_int
