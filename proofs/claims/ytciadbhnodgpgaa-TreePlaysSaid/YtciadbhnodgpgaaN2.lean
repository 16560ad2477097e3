/-
  Slices of names; rows when the marks are shut; slices.Clip at names.
  Conditions: none.
-/
import Derived.Test.YtciadbhnodgpgaaN1
import Derived.Test.YtciadbhnodgpgaaM3
set_option linter.unusedVariables false
set_option linter.unusedSimpArgs false
set_option linter.defProp false
namespace Go.Proofs.Ytciadbhnodgpgaa
open Go
set_option maxRecDepth 10000

theorem Row.shut {w x : World} {v : Value} {l : List Value} {D : Nat} {c : Option (List Deferred)} (h : Row w v l) (hD : w.heap[D]? = some (.deferred c)) (hk : Keep (fun b => b = D) w x) : Row x v l := by
  obtain ⟨a, cp, rfl, hc, hl⟩ := h
  refine ⟨a, cp, rfl, hc, fun j hj => cellO_keep hk (fun p hp hpD => ?_) (hl j hj)⟩
  have h1 := hl j hj
  rw [hp] at h1
  have h2 : w.cell? p = some l[j] := h1
  unfold World.cell? at h2
  rw [hpD, hD] at h2
  cases h2

theorem ClipN_ok {w : World} {v : Value} {l : List Value} (hr : Row w v l) : Fn Try.prog 37 #[v] w (fun u w' => Row w' u l ∧ Ext w w') := by
  obtain ⟨a, c, rfl, hc, hl⟩ := hr
  refine enter Try.func37 Try.ntmps37 rfl rfl ?_
  repeat (with_reducible first | refine W_seq ?_ | refine W_block ?_ | refine W_skip ?_ | refine W_ret ?_ | refine W_exit ?_ | refine thenQ_normal ?_ | refine thenQ_exit ?_ | refine thenQ_ret ?_ | refine blockQ_normal ?_ | refine blockQ_ret ?_ | refine blockQ_same ?_ | refine blockQ_other rfl ?_)
  refine W_reg (by rfl) ?_; intro gd K hgd hK; simp (disch := first | omega | assumption | rfl) only [↓reduceIte, go_sem, Nat.reduceLT, Nat.reduceEqDiff, Nat.reduceSub]; refine hK _ _ ?_; clear hK hgd; clear K gd
  repeat (with_reducible first | refine W_seq ?_ | refine W_block ?_ | refine W_skip ?_ | refine W_ret ?_ | refine W_exit ?_ | refine thenQ_normal ?_ | refine thenQ_exit ?_ | refine thenQ_ret ?_ | refine blockQ_normal ?_ | refine blockQ_ret ?_ | refine blockQ_same ?_ | refine blockQ_other rfl ?_)
  refine W_reg (by rfl) ?_; intro gd K hgd hK
  try simp (disch := first | omega | assumption | rfl) only [↓reduceIte, go_sem, Nat.reduceLT, Nat.reduceEqDiff, Nat.reduceSub]
  have hcl : slD Try.prog (some (TypeDesc.slice 24)) (Value.slice a l.length c) Option.none (some (Value.int IntKind.i64 ↑l.length)) (some (Value.int IntKind.i64 ↑l.length)) = some (.slice a l.length l.length) := s_clip hc (by rfl)
  rw [hcl]
  try simp (disch := first | omega | assumption | rfl) only [↓reduceIte, go_sem, Nat.reduceLT, Nat.reduceEqDiff, Nat.reduceSub]
  refine hK _ _ ?_; clear hK hgd; clear K; try clear gd
  repeat (with_reducible first | refine W_seq ?_ | refine W_block ?_ | refine W_skip ?_ | refine W_ret ?_ | refine W_exit ?_ | refine thenQ_normal ?_ | refine thenQ_exit ?_ | refine thenQ_ret ?_ | refine blockQ_normal ?_ | refine blockQ_ret ?_ | refine blockQ_same ?_ | refine blockQ_other rfl ?_)
  refine ret_one (by simp) rfl Try.ntmps37 (by simp only [↓reduceIte, go_sem, Nat.reduceLT, Nat.reduceEqDiff, Nat.reduceSub]; rfl) ?_
  exact ⟨⟨a, l.length, rfl, Nat.le_refl _, hl⟩, Keep.refl _ _⟩

/-- a slice of names -/
def NamesAt (w : World) (v : Value) (ns : List Nm) : Prop := ∃ vals, Row w v vals ∧ vals.length = ns.length ∧ ∀ i (h : i < vals.length) (h' : i < ns.length), Row w vals[i] (ns[i].map vs)

end Go.Proofs.Ytciadbhnodgpgaa
