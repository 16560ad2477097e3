/-
  Texts of a proof, joined: YSN.
  Conditions: none.
-/
import Derived.Test.YtopbbjdembnfdaaGreatRows
import Derived.JoinedOf
set_option linter.unusedVariables false
set_option linter.unusedSimpArgs false
set_option linter.defProp false
set_option linter.unnecessarySimpa false
namespace Go.Proofs.YtopbbjdembnfdaaGreat.stepNext
open Go Go.Proofs.YtopbbjdembnfdaaGreat
theorem j1:(Rows.stepNextRow.inPlace==Tryz.pinned.checked.prog.inPlace 8)=true:=by kernel_rfl
theorem j2:(Rows.stepNextRow.unfollowed==Tryz.pinned.checked.prog.unfollowed 8)=true:=by kernel_rfl
theorem j3:(Rows.stepNextRow.recurses==Tryz.pinned.checked.prog.recurses 8)=true:=by kernel_rfl
theorem j4:(Rows.stepNextRow.named==Tryz.pinned.checked.prog.varsNamed 8)=true:=by kernel_rfl
theorem j5:(Tryz.pinned.checked.prog.mayEnter)=true:=by kernel_rfl
theorem j6:(Rows.stepNextRow.lifted==Tryz.pinned.checked.prog.liftsFinal)=true:=by kernel_rfl
theorem joined:joinedFacts Tryz.pinned.checked.prog 8 Tryz.f8 Rows.stepNextSpec Rows.stepNextRow=true:=by
 unfold joinedFacts
 rw[j1,j2,j3,j4,j5,j6]
 kernel_rfl
end Go.Proofs.YtopbbjdembnfdaaGreat.stepNext
