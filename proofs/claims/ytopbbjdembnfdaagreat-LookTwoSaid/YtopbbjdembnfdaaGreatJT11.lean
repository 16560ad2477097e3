/-
  Texts of a proof, joined: YJT.
  Conditions: none.
-/
import Derived.Test.YtopbbjdembnfdaaGreatRows
import Derived.JoinedOf
set_option linter.unusedVariables false
set_option linter.unusedSimpArgs false
set_option linter.defProp false
set_option linter.unnecessarySimpa false
namespace Go.Proofs.YtopbbjdembnfdaaGreat.lookTwo
open Go Go.Proofs.YtopbbjdembnfdaaGreat
theorem j1 : (Rows.lookTwoRow.inPlace == Tryz.pinned.checked.prog.inPlace 4) = true := by kernel_rfl
theorem j2 : (Rows.lookTwoRow.unfollowed == Tryz.pinned.checked.prog.unfollowed 4) = true := by kernel_rfl
theorem j3 : (Rows.lookTwoRow.recurses == Tryz.pinned.checked.prog.recurses 4) = true := by kernel_rfl
theorem j4 : (Rows.lookTwoRow.named == Tryz.pinned.checked.prog.varsNamed 4) = true := by kernel_rfl
theorem j5 : (Tryz.pinned.checked.prog.mayEnter) = true := by kernel_rfl
theorem j6 : (Rows.lookTwoRow.lifted == Tryz.pinned.checked.prog.liftsFinal) = true := by kernel_rfl
theorem joined : joinedFacts Tryz.pinned.checked.prog 4 Tryz.f4 Rows.lookTwoSpec Rows.lookTwoRow = true := by
 unfold joinedFacts
 rw [j1, j2, j3, j4, j5, j6]
 kernel_rfl
end Go.Proofs.YtopbbjdembnfdaaGreat.lookTwo
