/-
  Texts of a proof, joined: YSO.
  Conditions: none.
-/
import Derived.Test.YtopbbjdembnfdaaGreatRows
import Derived.JoinedOf
set_option linter.unusedVariables false
set_option linter.unusedSimpArgs false
set_option linter.defProp false
set_option linter.unnecessarySimpa false
namespace Go.Proofs.YtopbbjdembnfdaaGreat.stepOn
open Go Go.Proofs.YtopbbjdembnfdaaGreat
theorem j1 : (Rows.stepOnRow.inPlace == Tryz.pinned.checked.prog.inPlace 9) = true := by kernel_rfl
theorem j2 : (Rows.stepOnRow.unfollowed == Tryz.pinned.checked.prog.unfollowed 9) = true := by kernel_rfl
theorem j3 : (Rows.stepOnRow.recurses == Tryz.pinned.checked.prog.recurses 9) = true := by kernel_rfl
theorem j4 : (Rows.stepOnRow.named == Tryz.pinned.checked.prog.varsNamed 9) = true := by kernel_rfl
theorem j5 : (Tryz.pinned.checked.prog.mayEnter) = true := by kernel_rfl
theorem j6 : (Rows.stepOnRow.lifted == Tryz.pinned.checked.prog.liftsFinal) = true := by kernel_rfl
theorem joined : joinedFacts Tryz.pinned.checked.prog 9 Tryz.f9 Rows.stepOnSpec Rows.stepOnRow = true := by
 unfold joinedFacts
 rw [j1, j2, j3, j4, j5, j6]
 kernel_rfl
end Go.Proofs.YtopbbjdembnfdaaGreat.stepOn
