/-
  The contracts of package tree: what it tells of one name, at elements of type bool.
  Conditions: none.
-/
import Derived.Test.YtciadbhnodgpgaaT1bool
set_option linter.unusedVariables false
set_option linter.unusedSimpArgs false
set_option linter.defProp false
namespace Go.Proofs.Ytciadbhnodgpgaa.T_bool
open Go Go.Proofs.Ytciadbhnodgpgaa
set_option maxRecDepth 10000

theorem full_in {z : Value} {s : TS} (hs : TSok z s) {f : Nm} : f ∈ s.names ↔ dep s.names f = f.length := by
  constructor
  · intro h
    have h1 := dep_le s.names f
    rcases Nat.lt_or_ge (dep s.names f) f.length with h2 | h2
    · have := sfx_out hs h2 (Nat.le_refl _)
      rw [sfx_full] at this; exact absurd h this
    · omega
  · intro h
    have := dep_in hs f
    rwa [h, sfx_full] at this


theorem Len_ok {w : World} {tb : Nat} {s : TS} (hT : TAt w tb s) :
    Fn Try.prog 27 #[ptrOf tb] w (fun v w' => v = .int .i64 (IntKind.i64.wrap s.names.length) ∧ Ext w w') := by
  have hc : cellO w (some ⟨tb, 1, Option.none⟩) = some (.int .i64 (IntKind.i64.wrap s.names.length)) := by
    show w.cell? _ = _
    rw [cell_of hT.root]; rfl
  refine enter Try.func27 Try.ntmps27 rfl rfl ?_
  repeat (with_reducible first | refine W_seq ?_ | refine W_block ?_ | refine W_skip ?_ | refine W_ret ?_ | refine W_exit ?_ | refine thenQ_normal ?_ | refine thenQ_exit ?_ | refine thenQ_ret ?_ | refine blockQ_normal ?_ | refine blockQ_ret ?_ | refine blockQ_same ?_ | refine blockQ_other rfl ?_)
  refine W_reg (by rfl) ?_; intro gd K hgd hK; simp (disch := first | omega | assumption | rfl) only [↓reduceIte, go_sem, Nat.reduceLT, Nat.reduceEqDiff, Nat.reduceSub]; refine hK _ _ ?_; clear hK hgd; clear K gd
  repeat (with_reducible first | refine W_seq ?_ | refine W_block ?_ | refine W_skip ?_ | refine W_ret ?_ | refine W_exit ?_ | refine thenQ_normal ?_ | refine thenQ_exit ?_ | refine thenQ_ret ?_ | refine blockQ_normal ?_ | refine blockQ_ret ?_ | refine blockQ_same ?_ | refine blockQ_other rfl ?_)
  refine W_reg (by rfl) ?_; intro gd K hgd hK; simp (disch := first | omega | assumption | rfl) only [↓reduceIte, go_sem, Nat.reduceLT, Nat.reduceEqDiff, Nat.reduceSub, ptrOf, hc]; refine hK _ _ ?_; clear hK hgd; clear K gd
  repeat (with_reducible first | refine W_seq ?_ | refine W_block ?_ | refine W_skip ?_ | refine W_ret ?_ | refine W_exit ?_ | refine thenQ_normal ?_ | refine thenQ_exit ?_ | refine thenQ_ret ?_ | refine blockQ_normal ?_ | refine blockQ_ret ?_ | refine blockQ_same ?_ | refine blockQ_other rfl ?_)
  refine ret_one (by simp) rfl Try.ntmps27 (by simp only [↓reduceIte, go_sem, Nat.reduceLT, Nat.reduceEqDiff, Nat.reduceSub]; rfl) ?_
  exact ⟨rfl, Keep.refl _ _⟩


end Go.Proofs.Ytciadbhnodgpgaa.T_bool
