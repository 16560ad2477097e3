/-
  Texts of a proof, joined: YSF.
  Conditions: none.
-/
import Derived.Test.YtopbbjdembnfdaaGreatRows
import Derived.JoinedOf
set_option linter.unusedVariables false
set_option linter.unusedSimpArgs false
set_option linter.defProp false
set_option linter.unnecessarySimpa false
namespace Go.Proofs.YtopbbjdembnfdaaGreat.stepFolds
open Go Go.Proofs.YtopbbjdembnfdaaGreat
theorem j1 : (Rows.stepFoldsRow.inPlace == Tryz.pinned.checked.prog.inPlace 11) = true := by kernel_rfl
theorem j2 : (Rows.stepFoldsRow.unfollowed == Tryz.pinned.checked.prog.unfollowed 11) = true := by kernel_rfl
theorem j3 : (Rows.stepFoldsRow.recurses == Tryz.pinned.checked.prog.recurses 11) = true := by kernel_rfl
theorem j4 : (Rows.stepFoldsRow.named == Tryz.pinned.checked.prog.varsNamed 11) = true := by kernel_rfl
theorem j5 : (Tryz.pinned.checked.prog.mayEnter) = true := by kernel_rfl
theorem j6 : (Rows.stepFoldsRow.lifted == Tryz.pinned.checked.prog.liftsFinal) = true := by kernel_rfl
theorem joined : joinedFacts Tryz.pinned.checked.prog 11 Tryz.f11 Rows.stepFoldsSpec Rows.stepFoldsRow = true := by
 unfold joinedFacts
 rw [j1, j2, j3, j4, j5, j6]
 kernel_rfl
end Go.Proofs.YtopbbjdembnfdaaGreat.stepFolds
