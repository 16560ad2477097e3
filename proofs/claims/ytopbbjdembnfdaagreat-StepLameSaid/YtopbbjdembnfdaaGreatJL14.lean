/-
  Texts of a proof, joined: YSL.
  Conditions: none.
-/
import Derived.Test.YtopbbjdembnfdaaGreatRows
import Derived.JoinedOf
set_option linter.unusedVariables false
set_option linter.unusedSimpArgs false
set_option linter.defProp false
set_option linter.unnecessarySimpa false
namespace Go.Proofs.YtopbbjdembnfdaaGreat.stepLame
open Go Go.Proofs.YtopbbjdembnfdaaGreat
theorem j1 : (Rows.stepLameRow.inPlace == Tryz.pinned.checked.prog.inPlace 10) = true := by kernel_rfl
theorem j2 : (Rows.stepLameRow.unfollowed == Tryz.pinned.checked.prog.unfollowed 10) = true := by kernel_rfl
theorem j3 : (Rows.stepLameRow.recurses == Tryz.pinned.checked.prog.recurses 10) = true := by kernel_rfl
theorem j4 : (Rows.stepLameRow.named == Tryz.pinned.checked.prog.varsNamed 10) = true := by kernel_rfl
theorem j5 : (Tryz.pinned.checked.prog.mayEnter) = true := by kernel_rfl
theorem j6 : (Rows.stepLameRow.lifted == Tryz.pinned.checked.prog.liftsFinal) = true := by kernel_rfl
theorem joined : joinedFacts Tryz.pinned.checked.prog 10 Tryz.f10 Rows.stepLameSpec Rows.stepLameRow = true := by
 unfold joinedFacts
 rw [j1, j2, j3, j4, j5, j6]
 kernel_rfl
end Go.Proofs.YtopbbjdembnfdaaGreat.stepLame
