/-
  Texts of a proof, joined: ZLB.
  Conditions: none.
-/
import Derived.Test.YtopbbjdembnfdaaGreatRows
import Derived.Test.YtopbbjdembnfdaaGreatJB09
import Derived.Test.YtopbbjdembnfdaaGreatJB03
import Derived.Test.YtopbbjdembnfdaaGreatJB10
import Derived.Test.YtopbbjdembnfdaaGreatJB11
set_option linter.unusedVariables false
set_option linter.unusedSimpArgs false
set_option linter.defProp false
set_option linter.unnecessarySimpa false
namespace Go.Proofs.YtopbbjdembnfdaaGreat.lookBelow
open Go Go.Proofs.YtopbbjdembnfdaaGreat Go.ChangeShapes Go.WideShapes Go.ChangeAt Go.RowKit

theorem own : ownKnob Tryz.prog.godebug = none := by kernel_rfl

set_option maxRecDepth 100000 in
theorem lifted (os : Os) (started : os.Started) (H : Type) (enc : TypeId × Value → H) :
  ReturnsInHanded {} Tryz.checked os 5 .any (Rows.lookBelowSpec.pre6 enc Tryz.prog Tryz.f5 Rows.lookBelowRow.domain false) (Rows.lookBelowSpec.post enc Tryz.prog Tryz.f5 false true false false) := by
 refine law_lift (C := Tryz.checked) own started (by kernel_rfl) Tryz.func5
  (ChangeSpec.witness6 (enc := enc) (C := Tryz.checked) false ⟨#[], #[.slice Option.none 0 0, .slice Option.none 0 0, .slice Option.none 0 0, .int .i64 0, .int .i64 0], []⟩ 8 (by kernel_rfl) (by kernel_rfl) (by kernel_rfl) (by kernel_rfl)) rfl ?_ (tb := 4) rfl rfl (by kernel_rfl) (by kernel_rfl) ?_
 ·intro ds hds
  match ds, hds with
  | [d0, d1, d2, d3, d4], _ => rfl
 ·intro W base args ds p hval hA0 hw0
  have hA : DataW.TrodAll enc Tryz.prog W 0 (fun _ => true) true [23, 24, 23, 3, 3] args ds p := hA0
  have hw : ∀ x ∈ DataW.weightsEach Tryz.prog [23, 24, 23, 3, 3] ds, x ≤ reachBytes := hw0
  obtain ⟨v0, vs0, d0, ds0, p0, q0, rfl, rfl, rfl, h0, r0⟩ := trodAll_cons hA
  obtain ⟨v1, vs1, d1, ds1, p1, q1, rfl, rfl, rfl, h1, r1⟩ := trodAll_cons r0
  obtain ⟨v2, vs2, d2, ds2, p2, q2, rfl, rfl, rfl, h2, r2⟩ := trodAll_cons r1
  obtain ⟨v3, vs3, d3, ds3, p3, q3, rfl, rfl, rfl, h3, r3⟩ := trodAll_cons r2
  obtain ⟨v4, vs4, d4, ds4, p4, q4, rfl, rfl, rfl, h4, r4⟩ := trodAll_cons r3
  obtain ⟨rfl, rfl, rfl⟩ := trodAll_nil r4
  obtain ⟨a0, n0, c0, rfl⟩ := okWide_slice (e := 9) rfl (hval 0 _ _ rfl rfl)
  obtain ⟨x0, f0, g0⟩ := rd_name (P := Tryz.prog) (rd_of_trod h0 rfl hw (j := 0) rfl rfl) (e := 9) rfl rfl rfl rfl
  obtain ⟨a1, n1, c1, rfl⟩ := okWide_slice (e := 110) rfl (hval 1 _ _ rfl rfl)
  obtain ⟨x1, f1, g1⟩ := rd_recs (rd_of_trod h1 rfl hw (j := 1) rfl rfl)
  obtain ⟨a2, n2, c2, rfl⟩ := okWide_slice (e := 9) rfl (hval 2 _ _ rfl rfl)
  obtain ⟨x2, f2, g2⟩ := rd_name (P := Tryz.prog) (rd_of_trod h2 rfl hw (j := 2) rfl rfl) (e := 9) rfl rfl rfl rfl
  obtain ⟨x3, rfl, _, _, f3⟩ := open_int (k := .i64) rfl (hval 3 _ _ rfl rfl) h3
  obtain ⟨x4, rfl, _, _, f4⟩ := open_int (k := .i64) rfl (hval 4 _ _ rfl rfl) h4
  exact LookBelow_ok Known_ok W f0 f1 g1 f2

theorem over : Rows.lookBelowRow.holds Tryz.pinned (OpenSpec.ofChange Rows.lookBelowSpec) :=
 OpenClaim.holds_of_wide 5 Tryz.f5 rfl rfl rfl rfl rfl rfl rfl ⟨rfl, rfl, rfl, rfl, rfl⟩ rfl rfl rfl rfl rfl (by kernel_rfl) Tryz.func5 joined
  (of_decide_eq_true (by kernel_rfl)) (by unfold Func.isWrapper; first | (rw [if_pos (by decide +kernel)]; kernel_rfl) | (rw [if_neg (by decide +kernel)]; exact ⟨rfl, rfl⟩))
  (fun os started H enc _ => lifted os started H enc)

theorem proved : Rows.LookBelowSaid := over
end Go.Proofs.YtopbbjdembnfdaaGreat.lookBelow
