/-
  Texts of a proof, joined: YJF.
  Conditions: none.
-/
import Derived.Test.YtopbbjdembnfdaaGreatRows
import Derived.JoinedOf
set_option linter.unusedVariables false
set_option linter.unusedSimpArgs false
set_option linter.defProp false
set_option linter.unnecessarySimpa false
namespace Go.Proofs.YtopbbjdembnfdaaGreat.lookFolds
open Go Go.Proofs.YtopbbjdembnfdaaGreat
theorem j1 : (Rows.lookFoldsRow.inPlace == Tryz.pinned.checked.prog.inPlace 7) = true := by kernel_rfl
theorem j2 : (Rows.lookFoldsRow.unfollowed == Tryz.pinned.checked.prog.unfollowed 7) = true := by kernel_rfl
theorem j3 : (Rows.lookFoldsRow.recurses == Tryz.pinned.checked.prog.recurses 7) = true := by kernel_rfl
theorem j4 : (Rows.lookFoldsRow.named == Tryz.pinned.checked.prog.varsNamed 7) = true := by kernel_rfl
theorem j5 : (Tryz.pinned.checked.prog.mayEnter) = true := by kernel_rfl
theorem j6 : (Rows.lookFoldsRow.lifted == Tryz.pinned.checked.prog.liftsFinal) = true := by kernel_rfl
theorem joined : joinedFacts Tryz.pinned.checked.prog 7 Tryz.f7 Rows.lookFoldsSpec Rows.lookFoldsRow = true := by
 unfold joinedFacts
 rw [j1, j2, j3, j4, j5, j6]
 kernel_rfl
end Go.Proofs.YtopbbjdembnfdaaGreat.lookFolds
