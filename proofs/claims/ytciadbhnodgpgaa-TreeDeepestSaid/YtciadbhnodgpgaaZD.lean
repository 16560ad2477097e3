/-
  For every input the law TreeDeepest returns true, and each argument reads behind the call as it read before.
  Conditions: none.
-/
import Derived.Test.YtciadbhnodgpgaaRows
import Derived.Test.YtciadbhnodgpgaaLD
import Derived.Test.YtciadbhnodgpgaaKN
set_option linter.unusedVariables false
set_option linter.unusedSimpArgs false
set_option linter.defProp false
namespace Go.Proofs.Ytciadbhnodgpgaa.treeDeepest
open Go Go.Proofs.Ytciadbhnodgpgaa Go.ChangeShapes Go.WideShapes Go.ChangeAt Go.RowKit

theorem own : ownKnob Try.prog.godebug = none := by kernel_rfl

set_option maxRecDepth 100000 in
theorem lifted (os : Os) (started : os.Started) (H : Type) (enc : TypeId × Value → H) :
    ReturnsInHanded {} Try.checked os 6 .any (Rows.treeDeepestSpec.pre6 enc Try.prog Try.f6 Rows.treeDeepestRow.domain false) (Rows.treeDeepestSpec.post enc Try.prog Try.f6 false true false false) := by
  refine law_lift (C := Try.checked) own started (by kernel_rfl) Try.func6
    (ChangeSpec.witness6 (enc := enc) (C := Try.checked) false ⟨#[], #[.slice Option.none 0 0, .slice Option.none 0 0], []⟩ 8 (by kernel_rfl) (by kernel_rfl) (by kernel_rfl) (by kernel_rfl)) rfl ?_ (tb := 4) rfl rfl (by kernel_rfl) (by kernel_rfl) ?_
  · intro ds hds
    match ds, hds with
    | [d1, d2], _ => rfl
  · intro W base args ds p hval hA0
    have hA : DataW.TrodAll enc Try.prog W 0 (fun _ => true) true [22, 24] args ds p := hA0
    obtain ⟨v0, vs0, d0, ds0, p0, q0, rfl, rfl, rfl, h0, r0⟩ := trodAll_cons hA
    obtain ⟨v1, vs1, d1, ds1, p1, q1, rfl, rfl, rfl, h1, r1⟩ := trodAll_cons r0
    obtain ⟨rfl, rfl, rfl⟩ := trodAll_nil r1
    obtain ⟨a0, n0, c0, rfl⟩ := okWide_slice (e := 24) rfl (hval 0 _ _ rfl rfl)
    obtain ⟨a1, n1, c1, rfl⟩ := okWide_slice (e := 9) rfl (hval 1 _ _ rfl rfl)
    obtain ⟨L, hL⟩ := rd_names (P := Try.prog) (ts := 24) (tb := 9) (rd_of_trod h0 rfl) rfl rfl rfl rfl rfl
    obtain ⟨q, hq⟩ := rd_name (P := Try.prog) (rd_of_trod h1 rfl) (e := 9) rfl rfl rfl
    exact tdeep_ok W _ _ L q hL hq

theorem over : Rows.treeDeepestRow.holds Try.pinned (OpenSpec.ofChange Rows.treeDeepestSpec) :=
  OpenClaim.holds_of_wide 6 Try.f6 rfl rfl rfl rfl rfl rfl rfl ⟨rfl, rfl, rfl, rfl, rfl⟩ rfl rfl rfl rfl rfl (by kernel_rfl) Try.func6 (by kernel_rfl)
    (of_decide_eq_true (by kernel_rfl)) (by unfold Func.isWrapper; first | (rw [if_pos (by decide +kernel)]; kernel_rfl) | (rw [if_neg (by decide +kernel)]; exact ⟨rfl, rfl⟩))
    (fun os started H enc _ => lifted os started H enc)

theorem proved : Rows.TreeDeepestSaid := over
end Go.Proofs.Ytciadbhnodgpgaa.treeDeepest
