/-
  For every input the law TreePlays returns true, and each argument reads behind the call as it read before.
  Conditions: none.
-/
import Derived.Test.YtciadbhnodgpgaaRows
import Derived.Test.YtciadbhnodgpgaaLP
import Derived.Test.YtciadbhnodgpgaaKN
set_option linter.unusedVariables false
set_option linter.unusedSimpArgs false
set_option linter.defProp false
namespace Go.Proofs.Ytciadbhnodgpgaa.treePlays
open Go Go.Proofs.Ytciadbhnodgpgaa Go.ChangeShapes Go.WideShapes Go.ChangeAt Go.RowKit

theorem own : ownKnob Try.prog.godebug = none := by kernel_rfl

set_option maxRecDepth 100000 in
theorem lifted (os : Os) (started : os.Started) (H : Type) (enc : TypeId × Value → H) :
    ReturnsInHanded {} Try.checked os 3 .any (Rows.treePlaysSpec.pre6 enc Try.prog Try.f3 Rows.treePlaysRow.domain false) (Rows.treePlaysSpec.post enc Try.prog Try.f3 false true false false) := by
  refine law_lift (C := Try.checked) own started (by kernel_rfl) Try.func3
    (ChangeSpec.witness6 (enc := enc) (C := Try.checked) false ⟨#[], #[.slice Option.none 0 0, .slice Option.none 0 0], []⟩ 8 (by kernel_rfl) (by kernel_rfl) (by kernel_rfl) (by kernel_rfl)) rfl ?_ (tb := 4) rfl rfl (by kernel_rfl) (by kernel_rfl) ?_
  · intro ds hds
    match ds, hds with
    | [d0, d1], _ => rfl
  · intro W base args ds p hval hA0 hw0
    have hA : DataW.TrodAll enc Try.prog W 0 (fun _ => true) true [22, 24] args ds p := hA0
    have hw : ∀ x ∈ DataW.weightsEach Try.prog [22, 24] ds, x ≤ reachBytes := hw0
    obtain ⟨v0, vs0, d0, ds0, p0, q0, rfl, rfl, rfl, h0, r0⟩ := trodAll_cons hA
    obtain ⟨v1, vs1, d1, ds1, p1, q1, rfl, rfl, rfl, h1, r1⟩ := trodAll_cons r0
    obtain ⟨rfl, rfl, rfl⟩ := trodAll_nil r1
    obtain ⟨a0, n0, c0, rfl⟩ := okWide_slice (e := 24) rfl (hval 0 _ _ rfl rfl)
    obtain ⟨x0, f0, g0⟩ := rd_names (P := Try.prog) (ts := 24) (tb := 9) (rd_of_trod h0 rfl hw (j := 0) rfl rfl) rfl rfl rfl rfl rfl rfl
    obtain ⟨a1, n1, c1, rfl⟩ := okWide_slice (e := 9) rfl (hval 1 _ _ rfl rfl)
    obtain ⟨x1, f1, g1⟩ := rd_name (P := Try.prog) (rd_of_trod h1 rfl hw (j := 1) rfl rfl) (e := 9) rfl rfl rfl rfl
    exact tplays_ok W _ _ x0 x1 f0 f1

theorem over : Rows.treePlaysRow.holds Try.pinned (OpenSpec.ofChange Rows.treePlaysSpec) :=
  OpenClaim.holds_of_wide 3 Try.f3 rfl rfl rfl rfl rfl rfl rfl ⟨rfl, rfl, rfl, rfl, rfl⟩ rfl rfl rfl rfl rfl (by kernel_rfl) Try.func3 (by kernel_rfl)
    (of_decide_eq_true (by kernel_rfl)) (by unfold Func.isWrapper; first | (rw [if_pos (by decide +kernel)]; kernel_rfl) | (rw [if_neg (by decide +kernel)]; exact ⟨rfl, rfl⟩))
    (fun os started H enc _ => lifted os started H enc)

theorem proved : Rows.TreePlaysSaid := over
end Go.Proofs.Ytciadbhnodgpgaa.treePlays
