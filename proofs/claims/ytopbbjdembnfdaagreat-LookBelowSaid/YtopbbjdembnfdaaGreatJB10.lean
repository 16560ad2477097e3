/-
  Texts of a proof, joined: YJB.
  Conditions: none.
-/
import Derived.Test.YtopbbjdembnfdaaGreatRows
import Derived.JoinedOf
set_option linter.unusedVariables false
set_option linter.unusedSimpArgs false
set_option linter.defProp false
set_option linter.unnecessarySimpa false
namespace Go.Proofs.YtopbbjdembnfdaaGreat.lookBelow
open Go Go.Proofs.YtopbbjdembnfdaaGreat
theorem j1 : (Rows.lookBelowRow.inPlace == Tryz.pinned.checked.prog.inPlace 5) = true := by kernel_rfl
theorem j2 : (Rows.lookBelowRow.unfollowed == Tryz.pinned.checked.prog.unfollowed 5) = true := by kernel_rfl
theorem j3 : (Rows.lookBelowRow.recurses == Tryz.pinned.checked.prog.recurses 5) = true := by kernel_rfl
theorem j4 : (Rows.lookBelowRow.named == Tryz.pinned.checked.prog.varsNamed 5) = true := by kernel_rfl
theorem j5 : (Tryz.pinned.checked.prog.mayEnter) = true := by kernel_rfl
theorem j6 : (Rows.lookBelowRow.lifted == Tryz.pinned.checked.prog.liftsFinal) = true := by kernel_rfl
theorem joined : joinedFacts Tryz.pinned.checked.prog 5 Tryz.f5 Rows.lookBelowSpec Rows.lookBelowRow = true := by
 unfold joinedFacts
 rw [j1, j2, j3, j4, j5, j6]
 kernel_rfl
end Go.Proofs.YtopbbjdembnfdaaGreat.lookBelow
