/-
  For every input the law TreeTexts returns true, and each argument reads behind the call as it read before.
  Conditions: none.
-/
import Derived.Test.YtciadbhnodgpgaaRows
import Derived.Test.YtciadbhnodgpgaaLX
import Derived.Test.YtciadbhnodgpgaaKN
set_option linter.unusedVariables false
set_option linter.unusedSimpArgs false
set_option linter.defProp false
namespace Go.Proofs.Ytciadbhnodgpgaa.treeTexts
open Go Go.Proofs.Ytciadbhnodgpgaa Go.ChangeShapes Go.WideShapes Go.ChangeAt Go.RowKit

theorem own : ownKnob Try.prog.godebug = none := by kernel_rfl

set_option maxRecDepth 100000 in
theorem lifted (os : Os) (started : os.Started) (H : Type) (enc : TypeId × Value → H) :
    ReturnsInHanded {} Try.checked os 4 .any (Rows.treeTextsSpec.pre6 enc Try.prog Try.f4 Rows.treeTextsRow.domain false) (Rows.treeTextsSpec.post enc Try.prog Try.f4 false true false false) := by
  refine law_lift (C := Try.checked) own started (by kernel_rfl) Try.func4
    (ChangeSpec.witness6 (enc := enc) (C := Try.checked) false ⟨#[], #[.slice Option.none 0 0, .slice Option.none 0 0], []⟩ 8 (by kernel_rfl) (by kernel_rfl) (by kernel_rfl) (by kernel_rfl)) rfl ?_ (tb := 4) rfl rfl (by kernel_rfl) (by kernel_rfl) ?_
  · intro ds hds
    match ds, hds with
    | [d0, d1], _ => rfl
  · intro W base args ds p hval hA0
    have hA : DataW.TrodAll enc Try.prog W 0 (fun _ => true) true [22, 23] args ds p := hA0
    obtain ⟨v0, vs0, d0, ds0, p0, q0, rfl, rfl, rfl, h0, r0⟩ := trodAll_cons hA
    obtain ⟨v1, vs1, d1, ds1, p1, q1, rfl, rfl, rfl, h1, r1⟩ := trodAll_cons r0
    obtain ⟨rfl, rfl, rfl⟩ := trodAll_nil r1
    obtain ⟨a0, n0, c0, rfl⟩ := okWide_slice (e := 24) rfl (hval 0 _ _ rfl rfl)
    obtain ⟨x0, f0⟩ := rd_names (P := Try.prog) (ts := 24) (tb := 9) (rd_of_trod h0 rfl) rfl rfl rfl rfl rfl
    obtain ⟨a1, n1, c1, rfl⟩ := okWide_slice (e := 9) rfl (hval 1 _ _ rfl rfl)
    obtain ⟨x1, f1⟩ := rd_name (P := Try.prog) (rd_of_trod h1 rfl) (e := 9) rfl rfl rfl
    exact ttexts_ok W _ _ x0 x1 f0 f1

theorem over : Rows.treeTextsRow.holds Try.pinned (OpenSpec.ofChange Rows.treeTextsSpec) :=
  OpenClaim.holds_of_wide 4 Try.f4 rfl rfl rfl rfl rfl rfl rfl ⟨rfl, rfl, rfl, rfl, rfl⟩ rfl rfl rfl rfl rfl (by kernel_rfl) Try.func4 (by kernel_rfl)
    (of_decide_eq_true (by kernel_rfl)) (by unfold Func.isWrapper; first | (rw [if_pos (by decide +kernel)]; kernel_rfl) | (rw [if_neg (by decide +kernel)]; exact ⟨rfl, rfl⟩))
    (fun os started H enc _ => lifted os started H enc)

theorem proved : Rows.TreeTextsSaid := over
end Go.Proofs.Ytciadbhnodgpgaa.treeTexts
