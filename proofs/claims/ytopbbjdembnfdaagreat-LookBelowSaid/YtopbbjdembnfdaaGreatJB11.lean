/-
  Texts of a proof, joined: G9.
  Conditions: none.
-/
import Derived.Test.YtopbbjdembnfdaaGreatJB09
set_option linter.unusedVariables false
set_option linter.unusedSimpArgs false
set_option linter.defProp false
set_option linter.unnecessarySimpa false
namespace Go.Proofs.YtopbbjdembnfdaaGreat
open Go
set_option maxRecDepth 100000

theorem bsL_of {P : Program} {w : World} {K : Value → World → Prop} {t e : TypeId} {n : Nat} {parts : List (Nat × Value)} {arr : Array Value} (h : bsC P t n parts = some (e, arr))
  (hk : ∀ w1, Ext w w1 → w1.heap.size = w.heap.size + 1 → w1.heap[w.heap.size]? = some (.cells arr e (0, 0)) → K (.slice (some ⟨w.heap.size, 0, Option.none⟩) n n) w1) : bsL P t n parts w K .mk := by
 unfold bsL bsK
 rw [h]
 exact hk _ (Ext.alloc w _) (new_size w _) (new_block w _)

theorem names_nil (w : World) : NamesAt w (.slice Option.none 0 0) [] := ⟨[], nil_row _, rfl, fun i h => absurd h (by simp)⟩
theorem names_one {w : World} {nv sv : Value} {n : Nm} (h1 : Row w sv [nv]) (h2 : Row w nv (n.map vs)) : NamesAt w sv [n] := ⟨[nv], h1, rfl, fun i h h' => by
 have h0 : i = 0 := by simp at h; omega
 subst h0
 exact h2⟩

set_option maxHeartbeats 4000000 in
theorem Known_ok : KnownOk := by
 intro w0
 refine enter Tryz.func15 Tryz.ntmps15 rfl rfl ?_
 repeat refine c_r ?_
 refine rg0 ?_
 repeat refine c_r ?_
 refine rq ?_; intro gd K hgd hK
 try simp (disch := first | omega | assumption | rfl) only [↓reduceIte, go_sem, Nat.reduceLT, Nat.reduceEqDiff, Nat.reduceSub]
 refine bs_list (z := vs []) (l := [vs [111]]) rfl rfl rfl rfl rfl rfl (fun v hv => by simp at hv; rcases hv with rfl; rfl) (by simp) ?_
 intro x1 e1 s1 o1
 obtain ⟨c1, hc1⟩ : ∃ c, w0.heap.size = c := ⟨_, rfl⟩
 rw [hc1] at o1 ⊢
 have r1 : Row x1 (.slice (some ⟨c1, 0, Option.none⟩) 1 1) (([[111]] : Nm).map vs) := o1.row
 try simp (disch := first | omega | assumption | rfl) only [↓reduceIte, go_sem, Nat.reduceLT, Nat.reduceEqDiff, Nat.reduceSub]
 refine hK _ _ ?_; clear hK hgd; clear K; try clear gd
 repeat refine c_r ?_
 refine rq ?_; intro gd K hgd hK
 try simp (disch := first | omega | assumption | rfl) only [↓reduceIte, go_sem, Nat.reduceLT, Nat.reduceEqDiff, Nat.reduceSub]
 refine bs_list (z := .int .u8 0) (l := [.int .u8 1, .int .u8 2, .int .u8 3, .int .u8 4]) rfl rfl rfl rfl rfl rfl (fun v hv => by simp at hv; rcases hv with rfl | rfl | rfl | rfl <;> rfl) (by simp) ?_
 intro x2 e2 s2 o2
 obtain ⟨c2, hc2⟩ : ∃ c, x1.heap.size = c := ⟨_, rfl⟩
 rw [hc2] at o2 ⊢
 have r2 : Row x2 (.slice (some ⟨c2, 0, Option.none⟩) 4 4) (([1, 2, 3, 4] : List UInt8).map byteV) := o2.row
 try simp (disch := first | omega | assumption | rfl) only [↓reduceIte, go_sem, Nat.reduceLT, Nat.reduceEqDiff, Nat.reduceSub]
 refine ⟨by kernel_rfl, ?_⟩
 rw [show bdV Tryz.prog 59 [(0, vi 1), (4, .slice (some ⟨c2, 0, Option.none⟩) 4 4)] = some (.agg #[vi 1, .slice Option.none 0 0, .slice Option.none 0 0, .slice Option.none 0 0, .slice (some ⟨c2, 0, Option.none⟩) 4 4]) from by kernel_rfl]
 try simp (disch := first | omega | assumption | rfl) only [↓reduceIte, go_sem, Nat.reduceLT, Nat.reduceEqDiff, Nat.reduceSub]
 have hB3 := new_block x2 (.cells #[vi 0, .slice Option.none 0 0, .slice Option.none 0 0, .slice Option.none 0 0, .slice Option.none 0 0] 59 (0, 0))
 have hA3 := Ext.alloc x2 (.cells #[vi 0, .slice Option.none 0 0, .slice Option.none 0 0, .slice Option.none 0 0, .slice Option.none 0 0] 59 (0, 0))
 have hS3 := new_size x2 (.cells #[vi 0, .slice Option.none 0 0, .slice Option.none 0 0, .slice Option.none 0 0, .slice Option.none 0 0] 59 (0, 0))
 revert hB3 hA3 hS3
 generalize x2.alloc (.cells #[vi 0, .slice Option.none 0 0, .slice Option.none 0 0, .slice Option.none 0 0, .slice Option.none 0 0] 59 (0, 0)) = y3
 intro hB3 hA3 hS3
 refine sv_all (P := Tryz.prog) (t := 59) (l := [vi 1, .slice Option.none 0 0, .slice Option.none 0 0, .slice Option.none 0 0, .slice (some ⟨c2, 0, Option.none⟩) 4 4]) hB3 rfl (fun v h => by simp at h; rcases h with rfl | rfl | rfl | rfl | rfl <;> rfl) rfl rfl ?_
 intro x3 s3 b3 k3
 have e3 : Ext x2 x3 := Keep.to_ext hA3 rfl (fun b hb => by omega) k3
 obtain ⟨c3, hc3⟩ : ∃ c, x2.heap.size = c := ⟨_, rfl⟩
 rw [hc3] at b3 ⊢
 try simp (disch := first | omega | assumption | rfl) only [↓reduceIte, go_sem, Nat.reduceLT, Nat.reduceEqDiff, Nat.reduceSub]
 refine hK _ _ ?_; clear hK hgd; clear K; try clear gd
 repeat refine c_r ?_
 refine rq ?_; intro gd K hgd hK
 try simp (disch := first | omega | assumption | rfl) only [↓reduceIte, go_sem, Nat.reduceLT, Nat.reduceEqDiff, Nat.reduceSub]
 refine bs_list (z := vs []) (l := [vs [110, 115], vs [115], vs [111]]) rfl rfl rfl rfl rfl rfl (fun v hv => by simp at hv; rcases hv with rfl | rfl | rfl <;> rfl) (by simp) ?_
 intro x4 e4 s4 o4
 obtain ⟨c4, hc4⟩ : ∃ c, x3.heap.size = c := ⟨_, rfl⟩
 rw [hc4] at o4 ⊢
 have r4 : Row x4 (.slice (some ⟨c4, 0, Option.none⟩) 3 3) (([[110, 115], [115], [111]] : Nm).map vs) := o4.row
 try simp (disch := first | omega | assumption | rfl) only [↓reduceIte, go_sem, Nat.reduceLT, Nat.reduceEqDiff, Nat.reduceSub]
 refine hK _ _ ?_; clear hK hgd; clear K; try clear gd
 repeat refine c_r ?_
 refine rq ?_; intro gd K hgd hK
 have d3 := sv_cells (n := 5) b3 rfl
 try simp (disch := first | omega | assumption | rfl) only [↓reduceIte, go_sem, Nat.reduceLT, Nat.reduceEqDiff, Nat.reduceSub]
 refine bs_list (z := vs []) (l := [vs [97], vs [111]]) rfl rfl rfl rfl rfl rfl (fun v hv => by simp at hv; rcases hv with rfl | rfl <;> rfl) (by simp) ?_
 intro x5 e5 s5 o5
 obtain ⟨c5, hc5⟩ : ∃ c, x4.heap.size = c := ⟨_, rfl⟩
 rw [hc5] at o5 ⊢
 have r5 : Row x5 (.slice (some ⟨c5, 0, Option.none⟩) 2 2) (([[97], [111]] : Nm).map vs) := o5.row
 try simp (disch := first | omega | assumption | rfl) only [↓reduceIte, go_sem, Nat.reduceLT, Nat.reduceEqDiff, Nat.reduceSub]
 have d3_5 := cellsO_ext ((e4).trans e5) d3
 try simp (disch := first | omega | assumption | rfl) only [↓reduceIte, go_sem, Nat.reduceLT, Nat.reduceEqDiff, Nat.reduceSub, d3_5]
 refine ⟨by kernel_rfl, ?_⟩
 rw [show bdV Tryz.prog 110 [(0, .slice (some ⟨c5, 0, Option.none⟩) 2 2), (2, .agg #[vi 1, .slice Option.none 0 0, .slice Option.none 0 0, .slice Option.none 0 0, .slice (some ⟨c2, 0, Option.none⟩) 4 4])] = some (.agg #[.slice (some ⟨c5, 0, Option.none⟩) 2 2, v32 0, vi 1, .slice Option.none 0 0, .slice Option.none 0 0, .slice Option.none 0 0, .slice (some ⟨c2, 0, Option.none⟩) 4 4]) from by kernel_rfl]
 try simp (disch := first | omega | assumption | rfl) only [↓reduceIte, go_sem, Nat.reduceLT, Nat.reduceEqDiff, Nat.reduceSub]
 refine bs_list (z := vs []) (l := [vs [115], vs [111]]) rfl rfl rfl rfl rfl rfl (fun v hv => by simp at hv; rcases hv with rfl | rfl <;> rfl) (by simp) ?_
 intro x6 e6 s6 o6
 obtain ⟨c6, hc6⟩ : ∃ c, x5.heap.size = c := ⟨_, rfl⟩
 rw [hc6] at o6 ⊢
 have r6 : Row x6 (.slice (some ⟨c6, 0, Option.none⟩) 2 2) (([[115], [111]] : Nm).map vs) := o6.row
 try simp (disch := first | omega | assumption | rfl) only [↓reduceIte, go_sem, Nat.reduceLT, Nat.reduceEqDiff, Nat.reduceSub]
 refine bs_list (z := .slice Option.none 0 0) (l := [.slice (some ⟨c4, 0, Option.none⟩) 3 3]) rfl rfl rfl rfl rfl rfl (fun v hv => by simp at hv; subst hv; rfl) (by simp) ?_
 intro x7 e7 s7 o7
 obtain ⟨c7, hc7⟩ : ∃ c, x6.heap.size = c := ⟨_, rfl⟩
 rw [hc7] at o7 ⊢
 have r7 := o7.row
 try simp (disch := first | omega | assumption | rfl) only [↓reduceIte, go_sem, Nat.reduceLT, Nat.reduceEqDiff, Nat.reduceSub]
 refine ⟨by kernel_rfl, ?_⟩
 rw [show bdV Tryz.prog 59 [(0, vi 2), (1, .slice (some ⟨c7, 0, Option.none⟩) 1 1)] = some (.agg #[vi 2, .slice (some ⟨c7, 0, Option.none⟩) 1 1, .slice Option.none 0 0, .slice Option.none 0 0, .slice Option.none 0 0]) from by kernel_rfl]
 try simp (disch := first | omega | assumption | rfl) only [↓reduceIte, go_sem, Nat.reduceLT, Nat.reduceEqDiff, Nat.reduceSub]
 refine ⟨by kernel_rfl, ?_⟩
 rw [show bdV Tryz.prog 110 [(0, .slice (some ⟨c6, 0, Option.none⟩) 2 2), (2, .agg #[vi 2, .slice (some ⟨c7, 0, Option.none⟩) 1 1, .slice Option.none 0 0, .slice Option.none 0 0, .slice Option.none 0 0])] = some (.agg #[.slice (some ⟨c6, 0, Option.none⟩) 2 2, v32 0, vi 2, .slice (some ⟨c7, 0, Option.none⟩) 1 1, .slice Option.none 0 0, .slice Option.none 0 0, .slice Option.none 0 0]) from by kernel_rfl]
 try simp (disch := first | omega | assumption | rfl) only [↓reduceIte, go_sem, Nat.reduceLT, Nat.reduceEqDiff, Nat.reduceSub]
 have d3_7 := cellsO_ext ((((e4).trans e5).trans e6).trans e7) d3
 try simp (disch := first | omega | assumption | rfl) only [↓reduceIte, go_sem, Nat.reduceLT, Nat.reduceEqDiff, Nat.reduceSub, d3_7]
 refine ⟨by kernel_rfl, ?_⟩
 rw [show bdV Tryz.prog 110 [(0, .slice (some ⟨c4, 0, Option.none⟩) 3 3), (2, .agg #[vi 1, .slice Option.none 0 0, .slice Option.none 0 0, .slice Option.none 0 0, .slice (some ⟨c2, 0, Option.none⟩) 4 4])] = some (.agg #[.slice (some ⟨c4, 0, Option.none⟩) 3 3, v32 0, vi 1, .slice Option.none 0 0, .slice Option.none 0 0, .slice Option.none 0 0, .slice (some ⟨c2, 0, Option.none⟩) 4 4]) from by kernel_rfl]
 try simp (disch := first | omega | assumption | rfl) only [↓reduceIte, go_sem, Nat.reduceLT, Nat.reduceEqDiff, Nat.reduceSub]
 refine bs_list (z := vs []) (l := [vs [100], vs [111]]) rfl rfl rfl rfl rfl rfl (fun v hv => by simp at hv; rcases hv with rfl | rfl <;> rfl) (by simp) ?_
 intro x8 e8 s8 o8
 obtain ⟨c8, hc8⟩ : ∃ c, x7.heap.size = c := ⟨_, rfl⟩
 rw [hc8] at o8 ⊢
 have r8 : Row x8 (.slice (some ⟨c8, 0, Option.none⟩) 2 2) (([[100], [111]] : Nm).map vs) := o8.row
 try simp (disch := first | omega | assumption | rfl) only [↓reduceIte, go_sem, Nat.reduceLT, Nat.reduceEqDiff, Nat.reduceSub]
 refine bs_list (z := vs []) (l := [vs [116]]) rfl rfl rfl rfl rfl rfl (fun v hv => by simp at hv; rcases hv with rfl; rfl) (by simp) ?_
 intro x9 e9 s9 o9
 obtain ⟨c9, hc9⟩ : ∃ c, x8.heap.size = c := ⟨_, rfl⟩
 rw [hc9] at o9 ⊢
 have r9 : Row x9 (.slice (some ⟨c9, 0, Option.none⟩) 1 1) (([[116]] : Nm).map vs) := o9.row
 try simp (disch := first | omega | assumption | rfl) only [↓reduceIte, go_sem, Nat.reduceLT, Nat.reduceEqDiff, Nat.reduceSub]
 refine bs_list (z := .slice Option.none 0 0) (l := [.slice (some ⟨c9, 0, Option.none⟩) 1 1]) rfl rfl rfl rfl rfl rfl (fun v hv => by simp at hv; subst hv; rfl) (by simp) ?_
 intro x10 e10 s10 o10
 obtain ⟨c10, hc10⟩ : ∃ c, x9.heap.size = c := ⟨_, rfl⟩
 rw [hc10] at o10 ⊢
 have r10 := o10.row
 try simp (disch := first | omega | assumption | rfl) only [↓reduceIte, go_sem, Nat.reduceLT, Nat.reduceEqDiff, Nat.reduceSub]
 refine ⟨by kernel_rfl, ?_⟩
 rw [show bdV Tryz.prog 59 [(0, vi 39), (1, .slice (some ⟨c10, 0, Option.none⟩) 1 1)] = some (.agg #[vi 39, .slice (some ⟨c10, 0, Option.none⟩) 1 1, .slice Option.none 0 0, .slice Option.none 0 0, .slice Option.none 0 0]) from by kernel_rfl]
 try simp (disch := first | omega | assumption | rfl) only [↓reduceIte, go_sem, Nat.reduceLT, Nat.reduceEqDiff, Nat.reduceSub]
 refine ⟨by kernel_rfl, ?_⟩
 rw [show bdV Tryz.prog 110 [(0, .slice (some ⟨c8, 0, Option.none⟩) 2 2), (2, .agg #[vi 39, .slice (some ⟨c10, 0, Option.none⟩) 1 1, .slice Option.none 0 0, .slice Option.none 0 0, .slice Option.none 0 0])] = some (.agg #[.slice (some ⟨c8, 0, Option.none⟩) 2 2, v32 0, vi 39, .slice (some ⟨c10, 0, Option.none⟩) 1 1, .slice Option.none 0 0, .slice Option.none 0 0, .slice Option.none 0 0]) from by kernel_rfl]
 try simp (disch := first | omega | assumption | rfl) only [↓reduceIte, go_sem, Nat.reduceLT, Nat.reduceEqDiff, Nat.reduceSub]
 refine bs_list (z := vs []) (l := [vs [42], vs [119], vs [111]]) rfl rfl rfl rfl rfl rfl (fun v hv => by simp at hv; rcases hv with rfl | rfl | rfl <;> rfl) (by simp) ?_
 intro x11 e11 s11 o11
 obtain ⟨c11, hc11⟩ : ∃ c, x10.heap.size = c := ⟨_, rfl⟩
 rw [hc11] at o11 ⊢
 have r11 : Row x11 (.slice (some ⟨c11, 0, Option.none⟩) 3 3) (([[42], [119], [111]] : Nm).map vs) := o11.row
 try simp (disch := first | omega | assumption | rfl) only [↓reduceIte, go_sem, Nat.reduceLT, Nat.reduceEqDiff, Nat.reduceSub]
 refine bs_list (z := vs []) (l := [vs [99]]) rfl rfl rfl rfl rfl rfl (fun v hv => by simp at hv; rcases hv with rfl; rfl) (by simp) ?_
 intro x12 e12 s12 o12
 obtain ⟨c12, hc12⟩ : ∃ c, x11.heap.size = c := ⟨_, rfl⟩
 rw [hc12] at o12 ⊢
 have r12 : Row x12 (.slice (some ⟨c12, 0, Option.none⟩) 1 1) (([[99]] : Nm).map vs) := o12.row
 try simp (disch := first | omega | assumption | rfl) only [↓reduceIte, go_sem, Nat.reduceLT, Nat.reduceEqDiff, Nat.reduceSub]
 refine bs_list (z := .slice Option.none 0 0) (l := [.slice (some ⟨c12, 0, Option.none⟩) 1 1]) rfl rfl rfl rfl rfl rfl (fun v hv => by simp at hv; subst hv; rfl) (by simp) ?_
 intro x13 e13 s13 o13
 obtain ⟨c13, hc13⟩ : ∃ c, x12.heap.size = c := ⟨_, rfl⟩
 rw [hc13] at o13 ⊢
 have r13 := o13.row
 try simp (disch := first | omega | assumption | rfl) only [↓reduceIte, go_sem, Nat.reduceLT, Nat.reduceEqDiff, Nat.reduceSub]
 refine ⟨by kernel_rfl, ?_⟩
 rw [show bdV Tryz.prog 59 [(0, vi 5), (1, .slice (some ⟨c13, 0, Option.none⟩) 1 1)] = some (.agg #[vi 5, .slice (some ⟨c13, 0, Option.none⟩) 1 1, .slice Option.none 0 0, .slice Option.none 0 0, .slice Option.none 0 0]) from by kernel_rfl]
 try simp (disch := first | omega | assumption | rfl) only [↓reduceIte, go_sem, Nat.reduceLT, Nat.reduceEqDiff, Nat.reduceSub]
 refine ⟨by kernel_rfl, ?_⟩
 rw [show bdV Tryz.prog 110 [(0, .slice (some ⟨c11, 0, Option.none⟩) 3 3), (2, .agg #[vi 5, .slice (some ⟨c13, 0, Option.none⟩) 1 1, .slice Option.none 0 0, .slice Option.none 0 0, .slice Option.none 0 0])] = some (.agg #[.slice (some ⟨c11, 0, Option.none⟩) 3 3, v32 0, vi 5, .slice (some ⟨c13, 0, Option.none⟩) 1 1, .slice Option.none 0 0, .slice Option.none 0 0, .slice Option.none 0 0]) from by kernel_rfl]
 try simp (disch := first | omega | assumption | rfl) only [↓reduceIte, go_sem, Nat.reduceLT, Nat.reduceEqDiff, Nat.reduceSub]
 refine bsL_of (e := 110) (arr := #[.slice (some ⟨c5, 0, Option.none⟩) 2 2, v32 0, vi 1, .slice Option.none 0 0, .slice Option.none 0 0, .slice Option.none 0 0, .slice (some ⟨c2, 0, Option.none⟩) 4 4, .slice (some ⟨c6, 0, Option.none⟩) 2 2, v32 0, vi 2, .slice (some ⟨c7, 0, Option.none⟩) 1 1, .slice Option.none 0 0, .slice Option.none 0 0, .slice Option.none 0 0, .slice (some ⟨c4, 0, Option.none⟩) 3 3, v32 0, vi 1, .slice Option.none 0 0, .slice Option.none 0 0, .slice Option.none 0 0, .slice (some ⟨c2, 0, Option.none⟩) 4 4, .slice (some ⟨c8, 0, Option.none⟩) 2 2, v32 0, vi 39, .slice (some ⟨c10, 0, Option.none⟩) 1 1, .slice Option.none 0 0, .slice Option.none 0 0, .slice Option.none 0 0, .slice (some ⟨c11, 0, Option.none⟩) 3 3, v32 0, vi 5, .slice (some ⟨c13, 0, Option.none⟩) 1 1, .slice Option.none 0 0, .slice Option.none 0 0, .slice Option.none 0 0]) (show bsC Tryz.prog 24 5 [(0, .agg #[.slice (some ⟨c5, 0, Option.none⟩) 2 2, v32 0, vi 1, .slice Option.none 0 0, .slice Option.none 0 0, .slice Option.none 0 0, .slice (some ⟨c2, 0, Option.none⟩) 4 4]), (1, .agg #[.slice (some ⟨c6, 0, Option.none⟩) 2 2, v32 0, vi 2, .slice (some ⟨c7, 0, Option.none⟩) 1 1, .slice Option.none 0 0, .slice Option.none 0 0, .slice Option.none 0 0]), (2, .agg #[.slice (some ⟨c4, 0, Option.none⟩) 3 3, v32 0, vi 1, .slice Option.none 0 0, .slice Option.none 0 0, .slice Option.none 0 0, .slice (some ⟨c2, 0, Option.none⟩) 4 4]), (3, .agg #[.slice (some ⟨c8, 0, Option.none⟩) 2 2, v32 0, vi 39, .slice (some ⟨c10, 0, Option.none⟩) 1 1, .slice Option.none 0 0, .slice Option.none 0 0, .slice Option.none 0 0]), (4, .agg #[.slice (some ⟨c11, 0, Option.none⟩) 3 3, v32 0, vi 5, .slice (some ⟨c13, 0, Option.none⟩) 1 1, .slice Option.none 0 0, .slice Option.none 0 0, .slice Option.none 0 0])] = _ from by kernel_rfl) ?_
 intro x14 e14 s14 b14
 obtain ⟨c14, hc14⟩ : ∃ c, x13.heap.size = c := ⟨_, rfl⟩
 rw [hc14] at b14 ⊢
 try simp (disch := first | omega | assumption | rfl) only [↓reduceIte, go_sem, Nat.reduceLT, Nat.reduceEqDiff, Nat.reduceSub]
 have hrows : Rows 7 (RecAt x14) x14 (.slice (some ⟨c14, 0, Option.none⟩) kRs.length 5) kRs := by
  refine Rows.close (by decide) (fun i hi => ?_)
  have hi5 : i = 0 ∨ i = 1 ∨ i = 2 ∨ i = 3 ∨ i = 4 := by
   have h5 : i < 5 := hi
   omega
  rcases hi5 with rfl | rfl | rfl | rfl | rfl
  ·refine ⟨_, by rw [adr_some]; exact cellsO_block b14 (Nat.le_of_ble_eq_true rfl), ⟨_, _, rfl, r5.ext (((((((((e6).trans e7).trans e8).trans e9).trans e10).trans e11).trans e12).trans e13).trans e14), ⟨_, _, _, _, rfl, names_nil _, nil_row _, nil_row _, r2.ext ((((((((((((e3).trans e4).trans e5).trans e6).trans e7).trans e8).trans e9).trans e10).trans e11).trans e12).trans e13).trans e14)⟩⟩⟩
  ·refine ⟨_, by rw [adr_some]; exact cellsO_block b14 (Nat.le_of_ble_eq_true rfl), ⟨_, _, rfl, r6.ext ((((((((e7).trans e8).trans e9).trans e10).trans e11).trans e12).trans e13).trans e14), ⟨_, _, _, _, rfl, names_one (r7.ext (((((((e8).trans e9).trans e10).trans e11).trans e12).trans e13).trans e14)) (r4.ext ((((((((((e5).trans e6).trans e7).trans e8).trans e9).trans e10).trans e11).trans e12).trans e13).trans e14)), nil_row _, nil_row _, nil_row _⟩⟩⟩
  ·refine ⟨_, by rw [adr_some]; exact cellsO_block b14 (Nat.le_of_ble_eq_true rfl), ⟨_, _, rfl, r4.ext ((((((((((e5).trans e6).trans e7).trans e8).trans e9).trans e10).trans e11).trans e12).trans e13).trans e14), ⟨_, _, _, _, rfl, names_nil _, nil_row _, nil_row _, r2.ext ((((((((((((e3).trans e4).trans e5).trans e6).trans e7).trans e8).trans e9).trans e10).trans e11).trans e12).trans e13).trans e14)⟩⟩⟩
  ·refine ⟨_, by rw [adr_some]; exact cellsO_block b14 (Nat.le_of_ble_eq_true rfl), ⟨_, _, rfl, r8.ext ((((((e9).trans e10).trans e11).trans e12).trans e13).trans e14), ⟨_, _, _, _, rfl, names_one (r10.ext ((((e11).trans e12).trans e13).trans e14)) (r9.ext (((((e10).trans e11).trans e12).trans e13).trans e14)), nil_row _, nil_row _, nil_row _⟩⟩⟩
  ·refine ⟨_, by rw [adr_some]; exact cellsO_block b14 (Nat.le_of_ble_eq_true rfl), ⟨_, _, rfl, r11.ext (((e12).trans e13).trans e14), ⟨_, _, _, _, rfl, names_one (r13.ext (e14)) (r12.ext ((e13).trans e14)), nil_row _, nil_row _, nil_row _⟩⟩⟩
 have ho := r1.ext (((((((((((((e2).trans e3).trans e4).trans e5).trans e6).trans e7).trans e8).trans e9).trans e10).trans e11).trans e12).trans e13).trans e14)
 refine Fn.mono (ZNew_ok (o := kO) (Keep.refl _ x14) ho hrows (good_ok k_rs k_num) (by decide)) ?_
 rintro _ x15 ⟨e15, cv, rfl, hcv⟩
 have hcv1 : one cv = true := by
  obtain ⟨a, c, h, _⟩ := hcv.open
  rw [h]; rfl
 try simp (disch := first | omega | assumption | rfl) only [↓reduceIte, go_sem, Nat.reduceLT, Nat.reduceEqDiff, Nat.reduceSub]
 have hB16 := new_block x15 (.cells #[.slice Option.none 0 0, .slice Option.none 0 0] 34 (0, 0))
 have hA16 := Ext.alloc x15 (.cells #[.slice Option.none 0 0, .slice Option.none 0 0] 34 (0, 0))
 have hS16 := new_size x15 (.cells #[.slice Option.none 0 0, .slice Option.none 0 0] 34 (0, 0))
 revert hB16 hA16 hS16
 generalize x15.alloc (.cells #[.slice Option.none 0 0, .slice Option.none 0 0] 34 (0, 0)) = y16
 intro hB16 hA16 hS16
 refine sv_all (P := Tryz.prog) (t := 34) (l := [.slice (some ⟨c1, 0, Option.none⟩) 1 1, cv]) hB16 rfl (fun v h => by
  simp at h
  rcases h with rfl | rfl
  ·rfl
  ·exact hcv1) rfl rfl ?_
 intro x16 s16 b16 k16
 have e16 : Ext x15 x16 := Keep.to_ext hA16 rfl (fun b hb => by omega) k16
 obtain ⟨c16, hc16⟩ : ∃ c, x15.heap.size = c := ⟨_, rfl⟩
 rw [hc16] at b16 ⊢
 try simp (disch := first | omega | assumption | rfl) only [↓reduceIte, go_sem, Nat.reduceLT, Nat.reduceEqDiff, Nat.reduceSub]
 refine hK _ _ ?_; clear hK hgd; clear K; try clear gd
 repeat refine c_r ?_
 have hgo : goodN kO = true := by kernel_rfl
 refine rq ?_; intro gd K hgd hK
 have zd16 := sv_cells (n := 2) b16 rfl
 try simp (disch := first | omega | assumption | rfl) only [↓reduceIte, go_sem, Nat.reduceLT, Nat.reduceEqDiff, Nat.reduceSub, zd16]
 refine bs_list (z := vs []) (l := [vs [65], vs [111]]) rfl rfl rfl rfl rfl rfl (fun v hv => by simp at hv; rcases hv with rfl | rfl <;> rfl) (by simp) ?_
 intro x17 e17 s17 o17
 obtain ⟨c17, hc17⟩ : ∃ c, x16.heap.size = c := ⟨_, rfl⟩
 rw [hc17] at o17 ⊢
 have r17 : Row x17 (.slice (some ⟨c17, 0, Option.none⟩) 2 2) (([[65], [111]] : Nm).map vs) := o17.row
 try simp (disch := first | omega | assumption | rfl) only [↓reduceIte, go_sem, Nat.reduceLT, Nat.reduceEqDiff, Nat.reduceSub]
 have mq17 : NmM [[65], [111]] := (goodN_g (show goodN [[65], [111]] = true by kernel_rfl)).m
 refine Fn.mono (Zone_ok (o := kO) (R := canonL kRs) (t := 1) (good_zone k_good (((e15).trans e16).trans e17) ((((((((((((((((e2).trans e3).trans e4).trans e5).trans e6).trans e7).trans e8).trans e9).trans e10).trans e11).trans e12).trans e13).trans e14).trans e15).trans e16).trans e17 |> fun h => r1.ext h) (hcv.ext ((e16).trans e17)) hgo) k_good.gd r17 mq17) ?_
 rintro _ x18 ⟨e18, csa, rfl, hresa⟩
 have hcsa := hresa.cells
 have raa : ResAt x14 x18 csa ⟨1, [kA], [], false, []⟩ := by
  have h := hresa.at ((((e15).trans e16).trans e17).trans e18)
  rw [show lookL kO (canonL kRs) [[65], [111]] 1 = _ from k_a] at h
  exact h
 clear hresa
 have oka : ResOk ⟨1, [kA], [], false, []⟩ := by
  have h := look_ok k_good (o := kO) (t := 1) mq17
  rw [show lookL kO (canonL kRs) [[65], [111]] 1 = _ from k_a] at h
  exact h
 try simp (disch := first | omega | assumption | rfl) only [↓reduceIte, go_sem, Nat.reduceLT, Nat.reduceEqDiff, Nat.reduceSub]
 have hB19 := new_block x18 (.cells #[vi 0, .slice Option.none 0 0, .slice Option.none 0 0, .bool false, .slice Option.none 0 0] 31 (0, 0))
 have hA19 := Ext.alloc x18 (.cells #[vi 0, .slice Option.none 0 0, .slice Option.none 0 0, .bool false, .slice Option.none 0 0] 31 (0, 0))
 have hS19 := new_size x18 (.cells #[vi 0, .slice Option.none 0 0, .slice Option.none 0 0, .bool false, .slice Option.none 0 0] 31 (0, 0))
 revert hB19 hA19 hS19
 generalize x18.alloc (.cells #[vi 0, .slice Option.none 0 0, .slice Option.none 0 0, .bool false, .slice Option.none 0 0] 31 (0, 0)) = y19
 intro hB19 hA19 hS19
 refine sv_all (P := Tryz.prog) (t := 31) (l := csa) hB19 hcsa.1 hcsa.2 (by rw [hcsa.1]; rfl) rfl ?_
 intro x19 s19 b19 k19
 have e19 : Ext x18 x19 := Keep.to_ext hA19 rfl (fun b hb => by omega) k19
 obtain ⟨c19, hc19⟩ : ∃ c, x18.heap.size = c := ⟨_, rfl⟩
 rw [hc19] at b19 ⊢
 try simp (disch := first | omega | assumption | rfl) only [↓reduceIte, go_sem, Nat.reduceLT, Nat.reduceEqDiff, Nat.reduceSub]
 refine hK _ _ ?_; clear hK hgd; clear K; try clear gd
 repeat refine c_r ?_
 refine rq ?_; intro gd K hgd hK
 have zd19 := cellsO_ext (((e17).trans e18).trans e19) (sv_cells (n := 2) b16 rfl)
 try simp (disch := first | omega | assumption | rfl) only [↓reduceIte, go_sem, Nat.reduceLT, Nat.reduceEqDiff, Nat.reduceSub, zd19]
 refine bs_list (z := vs []) (l := [vs [113], vs [115], vs [111]]) rfl rfl rfl rfl rfl rfl (fun v hv => by simp at hv; rcases hv with rfl | rfl | rfl <;> rfl) (by simp) ?_
 intro x20 e20 s20 o20
 obtain ⟨c20, hc20⟩ : ∃ c, x19.heap.size = c := ⟨_, rfl⟩
 rw [hc20] at o20 ⊢
 have r20 : Row x20 (.slice (some ⟨c20, 0, Option.none⟩) 3 3) (([[113], [115], [111]] : Nm).map vs) := o20.row
 try simp (disch := first | omega | assumption | rfl) only [↓reduceIte, go_sem, Nat.reduceLT, Nat.reduceEqDiff, Nat.reduceSub]
 have mq20 : NmM [[113], [115], [111]] := (goodN_g (show goodN [[113], [115], [111]] = true by kernel_rfl)).m
 refine Fn.mono (Zone_ok (o := kO) (R := canonL kRs) (t := 1) (good_zone k_good ((((((e15).trans e16).trans e17).trans e18).trans e19).trans e20) (((((((((((((((((((e2).trans e3).trans e4).trans e5).trans e6).trans e7).trans e8).trans e9).trans e10).trans e11).trans e12).trans e13).trans e14).trans e15).trans e16).trans e17).trans e18).trans e19).trans e20 |> fun h => r1.ext h) (hcv.ext (((((e16).trans e17).trans e18).trans e19).trans e20)) hgo) k_good.gd r20 mq20) ?_
 rintro _ x21 ⟨e21, css, rfl, hress⟩
 have hcss := hress.cells
 have ras : ResAt x14 x21 css ⟨4, [kNsD], [[115], [111]], false, [(kNs, [kA])]⟩ := by
  have h := hress.at (((((((e15).trans e16).trans e17).trans e18).trans e19).trans e20).trans e21)
  rw [show lookL kO (canonL kRs) [[113], [115], [111]] 1 = _ from k_s] at h
  exact h
 clear hress
 have oks : ResOk ⟨4, [kNsD], [[115], [111]], false, [(kNs, [kA])]⟩ := by
  have h := look_ok k_good (o := kO) (t := 1) mq20
  rw [show lookL kO (canonL kRs) [[113], [115], [111]] 1 = _ from k_s] at h
  exact h
 try simp (disch := first | omega | assumption | rfl) only [↓reduceIte, go_sem, Nat.reduceLT, Nat.reduceEqDiff, Nat.reduceSub]
 have hB22 := new_block x21 (.cells #[vi 0, .slice Option.none 0 0, .slice Option.none 0 0, .bool false, .slice Option.none 0 0] 31 (0, 0))
 have hA22 := Ext.alloc x21 (.cells #[vi 0, .slice Option.none 0 0, .slice Option.none 0 0, .bool false, .slice Option.none 0 0] 31 (0, 0))
 have hS22 := new_size x21 (.cells #[vi 0, .slice Option.none 0 0, .slice Option.none 0 0, .bool false, .slice Option.none 0 0] 31 (0, 0))
 revert hB22 hA22 hS22
 generalize x21.alloc (.cells #[vi 0, .slice Option.none 0 0, .slice Option.none 0 0, .bool false, .slice Option.none 0 0] 31 (0, 0)) = y22
 intro hB22 hA22 hS22
 refine sv_all (P := Tryz.prog) (t := 31) (l := css) hB22 hcss.1 hcss.2 (by rw [hcss.1]; rfl) rfl ?_
 intro x22 s22 b22 k22
 have e22 : Ext x21 x22 := Keep.to_ext hA22 rfl (fun b hb => by omega) k22
 obtain ⟨c22, hc22⟩ : ∃ c, x21.heap.size = c := ⟨_, rfl⟩
 rw [hc22] at b22 ⊢
 try simp (disch := first | omega | assumption | rfl) only [↓reduceIte, go_sem, Nat.reduceLT, Nat.reduceEqDiff, Nat.reduceSub]
 refine hK _ _ ?_; clear hK hgd; clear K; try clear gd
 repeat refine c_r ?_
 refine rq ?_; intro gd K hgd hK
 have zd22 := cellsO_ext ((((((e17).trans e18).trans e19).trans e20).trans e21).trans e22) (sv_cells (n := 2) b16 rfl)
 try simp (disch := first | omega | assumption | rfl) only [↓reduceIte, go_sem, Nat.reduceLT, Nat.reduceEqDiff, Nat.reduceSub, zd22]
 refine bs_list (z := vs []) (l := [vs [112], vs [100], vs [111]]) rfl rfl rfl rfl rfl rfl (fun v hv => by simp at hv; rcases hv with rfl | rfl | rfl <;> rfl) (by simp) ?_
 intro x23 e23 s23 o23
 obtain ⟨c23, hc23⟩ : ∃ c, x22.heap.size = c := ⟨_, rfl⟩
 rw [hc23] at o23 ⊢
 have r23 : Row x23 (.slice (some ⟨c23, 0, Option.none⟩) 3 3) (([[112], [100], [111]] : Nm).map vs) := o23.row
 try simp (disch := first | omega | assumption | rfl) only [↓reduceIte, go_sem, Nat.reduceLT, Nat.reduceEqDiff, Nat.reduceSub]
 have mq23 : NmM [[112], [100], [111]] := (goodN_g (show goodN [[112], [100], [111]] = true by kernel_rfl)).m
 refine Fn.mono (Zone_ok (o := kO) (R := canonL kRs) (t := 1) (good_zone k_good (((((((((e15).trans e16).trans e17).trans e18).trans e19).trans e20).trans e21).trans e22).trans e23) ((((((((((((((((((((((e2).trans e3).trans e4).trans e5).trans e6).trans e7).trans e8).trans e9).trans e10).trans e11).trans e12).trans e13).trans e14).trans e15).trans e16).trans e17).trans e18).trans e19).trans e20).trans e21).trans e22).trans e23 |> fun h => r1.ext h) (hcv.ext ((((((((e16).trans e17).trans e18).trans e19).trans e20).trans e21).trans e22).trans e23)) hgo) k_good.gd r23 mq23) ?_
 rintro _ x24 ⟨e24, csd, rfl, hresd⟩
 have hcsd := hresd.cells
 have rad : ResAt x14 x24 csd ⟨5, [kDn], [[112], [116]], false, []⟩ := by
  have h := hresd.at ((((((((((e15).trans e16).trans e17).trans e18).trans e19).trans e20).trans e21).trans e22).trans e23).trans e24)
  rw [show lookL kO (canonL kRs) [[112], [100], [111]] 1 = _ from k_d] at h
  exact h
 clear hresd
 have okd : ResOk ⟨5, [kDn], [[112], [116]], false, []⟩ := by
  have h := look_ok k_good (o := kO) (t := 1) mq23
  rw [show lookL kO (canonL kRs) [[112], [100], [111]] 1 = _ from k_d] at h
  exact h
 try simp (disch := first | omega | assumption | rfl) only [↓reduceIte, go_sem, Nat.reduceLT, Nat.reduceEqDiff, Nat.reduceSub]
 have hB25 := new_block x24 (.cells #[vi 0, .slice Option.none 0 0, .slice Option.none 0 0, .bool false, .slice Option.none 0 0] 31 (0, 0))
 have hA25 := Ext.alloc x24 (.cells #[vi 0, .slice Option.none 0 0, .slice Option.none 0 0, .bool false, .slice Option.none 0 0] 31 (0, 0))
 have hS25 := new_size x24 (.cells #[vi 0, .slice Option.none 0 0, .slice Option.none 0 0, .bool false, .slice Option.none 0 0] 31 (0, 0))
 revert hB25 hA25 hS25
 generalize x24.alloc (.cells #[vi 0, .slice Option.none 0 0, .slice Option.none 0 0, .bool false, .slice Option.none 0 0] 31 (0, 0)) = y25
 intro hB25 hA25 hS25
 refine sv_all (P := Tryz.prog) (t := 31) (l := csd) hB25 hcsd.1 hcsd.2 (by rw [hcsd.1]; rfl) rfl ?_
 intro x25 s25 b25 k25
 have e25 : Ext x24 x25 := Keep.to_ext hA25 rfl (fun b hb => by omega) k25
 obtain ⟨c25, hc25⟩ : ∃ c, x24.heap.size = c := ⟨_, rfl⟩
 rw [hc25] at b25 ⊢
 try simp (disch := first | omega | assumption | rfl) only [↓reduceIte, go_sem, Nat.reduceLT, Nat.reduceEqDiff, Nat.reduceSub]
 refine hK _ _ ?_; clear hK hgd; clear K; try clear gd
 repeat refine c_r ?_
 refine rq ?_; intro gd K hgd hK
 have zd25 := cellsO_ext (((((((((e17).trans e18).trans e19).trans e20).trans e21).trans e22).trans e23).trans e24).trans e25) (sv_cells (n := 2) b16 rfl)
 try simp (disch := first | omega | assumption | rfl) only [↓reduceIte, go_sem, Nat.reduceLT, Nat.reduceEqDiff, Nat.reduceSub, zd25]
 refine bs_list (z := vs []) (l := [vs [112], vs [119], vs [111]]) rfl rfl rfl rfl rfl rfl (fun v hv => by simp at hv; rcases hv with rfl | rfl | rfl <;> rfl) (by simp) ?_
 intro x26 e26 s26 o26
 obtain ⟨c26, hc26⟩ : ∃ c, x25.heap.size = c := ⟨_, rfl⟩
 rw [hc26] at o26 ⊢
 have r26 : Row x26 (.slice (some ⟨c26, 0, Option.none⟩) 3 3) (([[112], [119], [111]] : Nm).map vs) := o26.row
 try simp (disch := first | omega | assumption | rfl) only [↓reduceIte, go_sem, Nat.reduceLT, Nat.reduceEqDiff, Nat.reduceSub]
 have mq26 : NmM [[112], [119], [111]] := (goodN_g (show goodN [[112], [119], [111]] = true by kernel_rfl)).m
 refine Fn.mono (Zone_ok (o := kO) (R := canonL kRs) (t := 1) (good_zone k_good ((((((((((((e15).trans e16).trans e17).trans e18).trans e19).trans e20).trans e21).trans e22).trans e23).trans e24).trans e25).trans e26) (((((((((((((((((((((((((e2).trans e3).trans e4).trans e5).trans e6).trans e7).trans e8).trans e9).trans e10).trans e11).trans e12).trans e13).trans e14).trans e15).trans e16).trans e17).trans e18).trans e19).trans e20).trans e21).trans e22).trans e23).trans e24).trans e25).trans e26 |> fun h => r1.ext h) (hcv.ext (((((((((((e16).trans e17).trans e18).trans e19).trans e20).trans e21).trans e22).trans e23).trans e24).trans e25).trans e26)) hgo) k_good.gd r26 mq26) ?_
 rintro _ x27 ⟨e27, csw, rfl, hresw⟩
 have hcsw := hresw.cells
 have raw : ResAt x14 x27 csw ⟨5, [kCn], [[99]], true, []⟩ := by
  have h := hresw.at (((((((((((((e15).trans e16).trans e17).trans e18).trans e19).trans e20).trans e21).trans e22).trans e23).trans e24).trans e25).trans e26).trans e27)
  rw [show lookL kO (canonL kRs) [[112], [119], [111]] 1 = _ from k_w] at h
  exact h
 clear hresw
 have okw : ResOk ⟨5, [kCn], [[99]], true, []⟩ := by
  have h := look_ok k_good (o := kO) (t := 1) mq26
  rw [show lookL kO (canonL kRs) [[112], [119], [111]] 1 = _ from k_w] at h
  exact h
 try simp (disch := first | omega | assumption | rfl) only [↓reduceIte, go_sem, Nat.reduceLT, Nat.reduceEqDiff, Nat.reduceSub]
 have hB28 := new_block x27 (.cells #[vi 0, .slice Option.none 0 0, .slice Option.none 0 0, .bool false, .slice Option.none 0 0] 31 (0, 0))
 have hA28 := Ext.alloc x27 (.cells #[vi 0, .slice Option.none 0 0, .slice Option.none 0 0, .bool false, .slice Option.none 0 0] 31 (0, 0))
 have hS28 := new_size x27 (.cells #[vi 0, .slice Option.none 0 0, .slice Option.none 0 0, .bool false, .slice Option.none 0 0] 31 (0, 0))
 revert hB28 hA28 hS28
 generalize x27.alloc (.cells #[vi 0, .slice Option.none 0 0, .slice Option.none 0 0, .bool false, .slice Option.none 0 0] 31 (0, 0)) = y28
 intro hB28 hA28 hS28
 refine sv_all (P := Tryz.prog) (t := 31) (l := csw) hB28 hcsw.1 hcsw.2 (by rw [hcsw.1]; rfl) rfl ?_
 intro x28 s28 b28 k28
 have e28 : Ext x27 x28 := Keep.to_ext hA28 rfl (fun b hb => by omega) k28
 obtain ⟨c28, hc28⟩ : ∃ c, x27.heap.size = c := ⟨_, rfl⟩
 rw [hc28] at b28 ⊢
 try simp (disch := first | omega | assumption | rfl) only [↓reduceIte, go_sem, Nat.reduceLT, Nat.reduceEqDiff, Nat.reduceSub]
 refine hK _ _ ?_; clear hK hgd; clear K; try clear gd
 repeat refine c_r ?_
 refine rq ?_; intro gd K hgd hK
 have zd28 := cellsO_ext ((((((((((((e17).trans e18).trans e19).trans e20).trans e21).trans e22).trans e23).trans e24).trans e25).trans e26).trans e27).trans e28) (sv_cells (n := 2) b16 rfl)
 try simp (disch := first | omega | assumption | rfl) only [↓reduceIte, go_sem, Nat.reduceLT, Nat.reduceEqDiff, Nat.reduceSub, zd28]
 refine bs_list (z := vs []) (l := [vs [118], vs [111]]) rfl rfl rfl rfl rfl rfl (fun v hv => by simp at hv; rcases hv with rfl | rfl <;> rfl) (by simp) ?_
 intro x29 e29 s29 o29
 obtain ⟨c29, hc29⟩ : ∃ c, x28.heap.size = c := ⟨_, rfl⟩
 rw [hc29] at o29 ⊢
 have r29 : Row x29 (.slice (some ⟨c29, 0, Option.none⟩) 2 2) (([[118], [111]] : Nm).map vs) := o29.row
 try simp (disch := first | omega | assumption | rfl) only [↓reduceIte, go_sem, Nat.reduceLT, Nat.reduceEqDiff, Nat.reduceSub]
 have mq29 : NmM [[118], [111]] := (goodN_g (show goodN [[118], [111]] = true by kernel_rfl)).m
 refine Fn.mono (Zone_ok (o := kO) (R := canonL kRs) (t := 1) (good_zone k_good (((((((((((((((e15).trans e16).trans e17).trans e18).trans e19).trans e20).trans e21).trans e22).trans e23).trans e24).trans e25).trans e26).trans e27).trans e28).trans e29) ((((((((((((((((((((((((((((e2).trans e3).trans e4).trans e5).trans e6).trans e7).trans e8).trans e9).trans e10).trans e11).trans e12).trans e13).trans e14).trans e15).trans e16).trans e17).trans e18).trans e19).trans e20).trans e21).trans e22).trans e23).trans e24).trans e25).trans e26).trans e27).trans e28).trans e29 |> fun h => r1.ext h) (hcv.ext ((((((((((((((e16).trans e17).trans e18).trans e19).trans e20).trans e21).trans e22).trans e23).trans e24).trans e25).trans e26).trans e27).trans e28).trans e29)) hgo) k_good.gd r29 mq29) ?_
 rintro _ x30 ⟨e30, csv, rfl, hresv⟩
 have hcsv := hresv.cells
 have rav : ResAt x14 x30 csv ⟨3, [], [], false, []⟩ := by
  have h := hresv.at ((((((((((((((((e15).trans e16).trans e17).trans e18).trans e19).trans e20).trans e21).trans e22).trans e23).trans e24).trans e25).trans e26).trans e27).trans e28).trans e29).trans e30)
  rw [show lookL kO (canonL kRs) [[118], [111]] 1 = _ from k_v] at h
  exact h
 clear hresv
 have okv : ResOk ⟨3, [], [], false, []⟩ := by
  have h := look_ok k_good (o := kO) (t := 1) mq29
  rw [show lookL kO (canonL kRs) [[118], [111]] 1 = _ from k_v] at h
  exact h
 try simp (disch := first | omega | assumption | rfl) only [↓reduceIte, go_sem, Nat.reduceLT, Nat.reduceEqDiff, Nat.reduceSub]
 have hB31 := new_block x30 (.cells #[vi 0, .slice Option.none 0 0, .slice Option.none 0 0, .bool false, .slice Option.none 0 0] 31 (0, 0))
 have hA31 := Ext.alloc x30 (.cells #[vi 0, .slice Option.none 0 0, .slice Option.none 0 0, .bool false, .slice Option.none 0 0] 31 (0, 0))
 have hS31 := new_size x30 (.cells #[vi 0, .slice Option.none 0 0, .slice Option.none 0 0, .bool false, .slice Option.none 0 0] 31 (0, 0))
 revert hB31 hA31 hS31
 generalize x30.alloc (.cells #[vi 0, .slice Option.none 0 0, .slice Option.none 0 0, .bool false, .slice Option.none 0 0] 31 (0, 0)) = y31
 intro hB31 hA31 hS31
 refine sv_all (P := Tryz.prog) (t := 31) (l := csv) hB31 hcsv.1 hcsv.2 (by rw [hcsv.1]; rfl) rfl ?_
 intro x31 s31 b31 k31
 have e31 : Ext x30 x31 := Keep.to_ext hA31 rfl (fun b hb => by omega) k31
 obtain ⟨c31, hc31⟩ : ∃ c, x30.heap.size = c := ⟨_, rfl⟩
 rw [hc31] at b31 ⊢
 try simp (disch := first | omega | assumption | rfl) only [↓reduceIte, go_sem, Nat.reduceLT, Nat.reduceEqDiff, Nat.reduceSub]
 refine hK _ _ ?_; clear hK hgd; clear K; try clear gd
 repeat refine c_r ?_
 refine rq ?_; intro gd K hgd hK
 have zd31 := cellsO_ext (((((((((((((((e17).trans e18).trans e19).trans e20).trans e21).trans e22).trans e23).trans e24).trans e25).trans e26).trans e27).trans e28).trans e29).trans e30).trans e31) (sv_cells (n := 2) b16 rfl)
 try simp (disch := first | omega | assumption | rfl) only [↓reduceIte, go_sem, Nat.reduceLT, Nat.reduceEqDiff, Nat.reduceSub, zd31]
 refine bs_list (z := vs []) (l := [vs [119], vs [111]]) rfl rfl rfl rfl rfl rfl (fun v hv => by simp at hv; rcases hv with rfl | rfl <;> rfl) (by simp) ?_
 intro x32 e32 s32 o32
 obtain ⟨c32, hc32⟩ : ∃ c, x31.heap.size = c := ⟨_, rfl⟩
 rw [hc32] at o32 ⊢
 have r32 : Row x32 (.slice (some ⟨c32, 0, Option.none⟩) 2 2) (([[119], [111]] : Nm).map vs) := o32.row
 try simp (disch := first | omega | assumption | rfl) only [↓reduceIte, go_sem, Nat.reduceLT, Nat.reduceEqDiff, Nat.reduceSub]
 have mq32 : NmM [[119], [111]] := (goodN_g (show goodN [[119], [111]] = true by kernel_rfl)).m
 refine Fn.mono (Zone_ok (o := kO) (R := canonL kRs) (t := 1) (good_zone k_good ((((((((((((((((((e15).trans e16).trans e17).trans e18).trans e19).trans e20).trans e21).trans e22).trans e23).trans e24).trans e25).trans e26).trans e27).trans e28).trans e29).trans e30).trans e31).trans e32) (((((((((((((((((((((((((((((((e2).trans e3).trans e4).trans e5).trans e6).trans e7).trans e8).trans e9).trans e10).trans e11).trans e12).trans e13).trans e14).trans e15).trans e16).trans e17).trans e18).trans e19).trans e20).trans e21).trans e22).trans e23).trans e24).trans e25).trans e26).trans e27).trans e28).trans e29).trans e30).trans e31).trans e32 |> fun h => r1.ext h) (hcv.ext (((((((((((((((((e16).trans e17).trans e18).trans e19).trans e20).trans e21).trans e22).trans e23).trans e24).trans e25).trans e26).trans e27).trans e28).trans e29).trans e30).trans e31).trans e32)) hgo) k_good.gd r32 mq32) ?_
 rintro _ x33 ⟨e33, cse, rfl, hrese⟩
 have hcse := hrese.cells
 have rae : ResAt x14 x33 cse ⟨2, [], [], false, []⟩ := by
  have h := hrese.at (((((((((((((((((((e15).trans e16).trans e17).trans e18).trans e19).trans e20).trans e21).trans e22).trans e23).trans e24).trans e25).trans e26).trans e27).trans e28).trans e29).trans e30).trans e31).trans e32).trans e33)
  rw [show lookL kO (canonL kRs) [[119], [111]] 1 = _ from k_e] at h
  exact h
 clear hrese
 have oke : ResOk ⟨2, [], [], false, []⟩ := by
  have h := look_ok k_good (o := kO) (t := 1) mq32
  rw [show lookL kO (canonL kRs) [[119], [111]] 1 = _ from k_e] at h
  exact h
 try simp (disch := first | omega | assumption | rfl) only [↓reduceIte, go_sem, Nat.reduceLT, Nat.reduceEqDiff, Nat.reduceSub]
 have hB34 := new_block x33 (.cells #[vi 0, .slice Option.none 0 0, .slice Option.none 0 0, .bool false, .slice Option.none 0 0] 31 (0, 0))
 have hA34 := Ext.alloc x33 (.cells #[vi 0, .slice Option.none 0 0, .slice Option.none 0 0, .bool false, .slice Option.none 0 0] 31 (0, 0))
 have hS34 := new_size x33 (.cells #[vi 0, .slice Option.none 0 0, .slice Option.none 0 0, .bool false, .slice Option.none 0 0] 31 (0, 0))
 revert hB34 hA34 hS34
 generalize x33.alloc (.cells #[vi 0, .slice Option.none 0 0, .slice Option.none 0 0, .bool false, .slice Option.none 0 0] 31 (0, 0)) = y34
 intro hB34 hA34 hS34
 refine sv_all (P := Tryz.prog) (t := 31) (l := cse) hB34 hcse.1 hcse.2 (by rw [hcse.1]; rfl) rfl ?_
 intro x34 s34 b34 k34
 have e34 : Ext x33 x34 := Keep.to_ext hA34 rfl (fun b hb => by omega) k34
 obtain ⟨c34, hc34⟩ : ∃ c, x33.heap.size = c := ⟨_, rfl⟩
 rw [hc34] at b34 ⊢
 try simp (disch := first | omega | assumption | rfl) only [↓reduceIte, go_sem, Nat.reduceLT, Nat.reduceEqDiff, Nat.reduceSub]
 refine hK _ _ ?_; clear hK hgd; clear K; try clear gd
 repeat refine c_r ?_
 refine rq ?_; intro gd K hgd hK
 have zd34 := cellsO_ext ((((((((((((((((((e17).trans e18).trans e19).trans e20).trans e21).trans e22).trans e23).trans e24).trans e25).trans e26).trans e27).trans e28).trans e29).trans e30).trans e31).trans e32).trans e33).trans e34) (sv_cells (n := 2) b16 rfl)
 try simp (disch := first | omega | assumption | rfl) only [↓reduceIte, go_sem, Nat.reduceLT, Nat.reduceEqDiff, Nat.reduceSub, zd34]
 refine bs_list (z := vs []) (l := [vs [112]]) rfl rfl rfl rfl rfl rfl (fun v hv => by simp at hv; rcases hv with rfl; rfl) (by simp) ?_
 intro x35 e35 s35 o35
 obtain ⟨c35, hc35⟩ : ∃ c, x34.heap.size = c := ⟨_, rfl⟩
 rw [hc35] at o35 ⊢
 have r35 : Row x35 (.slice (some ⟨c35, 0, Option.none⟩) 1 1) (([[112]] : Nm).map vs) := o35.row
 try simp (disch := first | omega | assumption | rfl) only [↓reduceIte, go_sem, Nat.reduceLT, Nat.reduceEqDiff, Nat.reduceSub]
 have mq35 : NmM [[112]] := (goodN_g (show goodN [[112]] = true by kernel_rfl)).m
 refine Fn.mono (Zone_ok (o := kO) (R := canonL kRs) (t := 1) (good_zone k_good (((((((((((((((((((((e15).trans e16).trans e17).trans e18).trans e19).trans e20).trans e21).trans e22).trans e23).trans e24).trans e25).trans e26).trans e27).trans e28).trans e29).trans e30).trans e31).trans e32).trans e33).trans e34).trans e35) ((((((((((((((((((((((((((((((((((e2).trans e3).trans e4).trans e5).trans e6).trans e7).trans e8).trans e9).trans e10).trans e11).trans e12).trans e13).trans e14).trans e15).trans e16).trans e17).trans e18).trans e19).trans e20).trans e21).trans e22).trans e23).trans e24).trans e25).trans e26).trans e27).trans e28).trans e29).trans e30).trans e31).trans e32).trans e33).trans e34).trans e35 |> fun h => r1.ext h) (hcv.ext ((((((((((((((((((((e16).trans e17).trans e18).trans e19).trans e20).trans e21).trans e22).trans e23).trans e24).trans e25).trans e26).trans e27).trans e28).trans e29).trans e30).trans e31).trans e32).trans e33).trans e34).trans e35)) hgo) k_good.gd r35 mq35) ?_
 rintro _ x36 ⟨e36, csp, rfl, hresp⟩
 have hcsp := hresp.cells
 have rap : ResAt x14 x36 csp ⟨7, [], [], false, []⟩ := by
  have h := hresp.at ((((((((((((((((((((((e15).trans e16).trans e17).trans e18).trans e19).trans e20).trans e21).trans e22).trans e23).trans e24).trans e25).trans e26).trans e27).trans e28).trans e29).trans e30).trans e31).trans e32).trans e33).trans e34).trans e35).trans e36)
  rw [show lookL kO (canonL kRs) [[112]] 1 = _ from k_p] at h
  exact h
 clear hresp
 have okp : ResOk ⟨7, [], [], false, []⟩ := by
  have h := look_ok k_good (o := kO) (t := 1) mq35
  rw [show lookL kO (canonL kRs) [[112]] 1 = _ from k_p] at h
  exact h
 try simp (disch := first | omega | assumption | rfl) only [↓reduceIte, go_sem, Nat.reduceLT, Nat.reduceEqDiff, Nat.reduceSub]
 have hB37 := new_block x36 (.cells #[vi 0, .slice Option.none 0 0, .slice Option.none 0 0, .bool false, .slice Option.none 0 0] 31 (0, 0))
 have hA37 := Ext.alloc x36 (.cells #[vi 0, .slice Option.none 0 0, .slice Option.none 0 0, .bool false, .slice Option.none 0 0] 31 (0, 0))
 have hS37 := new_size x36 (.cells #[vi 0, .slice Option.none 0 0, .slice Option.none 0 0, .bool false, .slice Option.none 0 0] 31 (0, 0))
 revert hB37 hA37 hS37
 generalize x36.alloc (.cells #[vi 0, .slice Option.none 0 0, .slice Option.none 0 0, .bool false, .slice Option.none 0 0] 31 (0, 0)) = y37
 intro hB37 hA37 hS37
 refine sv_all (P := Tryz.prog) (t := 31) (l := csp) hB37 hcsp.1 hcsp.2 (by rw [hcsp.1]; rfl) rfl ?_
 intro x37 s37 b37 k37
 have e37 : Ext x36 x37 := Keep.to_ext hA37 rfl (fun b hb => by omega) k37
 obtain ⟨c37, hc37⟩ : ∃ c, x36.heap.size = c := ⟨_, rfl⟩
 rw [hc37] at b37 ⊢
 try simp (disch := first | omega | assumption | rfl) only [↓reduceIte, go_sem, Nat.reduceLT, Nat.reduceEqDiff, Nat.reduceSub]
 refine hK _ _ ?_; clear hK hgd; clear K; try clear gd
 repeat refine c_r ?_
 obtain ⟨dva, nva, gva, hka, fda, fna, fga⟩ := raa.ex
 have hka' : csa = [vi 1, dva, nva, .bool false, gva] := hka
 clear hka
 subst hka'
 have ppa0 : cellO x37 (some ⟨c19, 0, Option.none⟩) = some (vi 1) := cellO_ext ((((((((((((((((((e20).trans e21).trans e22).trans e23).trans e24).trans e25).trans e26).trans e27).trans e28).trans e29).trans e30).trans e31).trans e32).trans e33).trans e34).trans e35).trans e36).trans e37) (sv_get b19 rfl)
 have ppa1 : cellO x37 (some ⟨c19, 1, Option.none⟩) = some (dva) := cellO_ext ((((((((((((((((((e20).trans e21).trans e22).trans e23).trans e24).trans e25).trans e26).trans e27).trans e28).trans e29).trans e30).trans e31).trans e32).trans e33).trans e34).trans e35).trans e36).trans e37) (sv_get b19 rfl)
 have ppa2 : cellO x37 (some ⟨c19, 2, Option.none⟩) = some (nva) := cellO_ext ((((((((((((((((((e20).trans e21).trans e22).trans e23).trans e24).trans e25).trans e26).trans e27).trans e28).trans e29).trans e30).trans e31).trans e32).trans e33).trans e34).trans e35).trans e36).trans e37) (sv_get b19 rfl)
 have ppa3 : cellO x37 (some ⟨c19, 3, Option.none⟩) = some (.bool false) := cellO_ext ((((((((((((((((((e20).trans e21).trans e22).trans e23).trans e24).trans e25).trans e26).trans e27).trans e28).trans e29).trans e30).trans e31).trans e32).trans e33).trans e34).trans e35).trans e36).trans e37) (sv_get b19 rfl)
 have ppa4 : cellO x37 (some ⟨c19, 4, Option.none⟩) = some (gva) := cellO_ext ((((((((((((((((((e20).trans e21).trans e22).trans e23).trans e24).trans e25).trans e26).trans e27).trans e28).trans e29).trans e30).trans e31).trans e32).trans e33).trans e34).trans e35).trans e36).trans e37) (sv_get b19 rfl)
 obtain ⟨dvs, nvs, gvs, hks, fds, fns, fgs⟩ := ras.ex
 have hks' : css = [vi 4, dvs, nvs, .bool false, gvs] := hks
 clear hks
 subst hks'
 have pps0 : cellO x37 (some ⟨c22, 0, Option.none⟩) = some (vi 4) := cellO_ext (((((((((((((((e23).trans e24).trans e25).trans e26).trans e27).trans e28).trans e29).trans e30).trans e31).trans e32).trans e33).trans e34).trans e35).trans e36).trans e37) (sv_get b22 rfl)
 have pps1 : cellO x37 (some ⟨c22, 1, Option.none⟩) = some (dvs) := cellO_ext (((((((((((((((e23).trans e24).trans e25).trans e26).trans e27).trans e28).trans e29).trans e30).trans e31).trans e32).trans e33).trans e34).trans e35).trans e36).trans e37) (sv_get b22 rfl)
 have pps2 : cellO x37 (some ⟨c22, 2, Option.none⟩) = some (nvs) := cellO_ext (((((((((((((((e23).trans e24).trans e25).trans e26).trans e27).trans e28).trans e29).trans e30).trans e31).trans e32).trans e33).trans e34).trans e35).trans e36).trans e37) (sv_get b22 rfl)
 have pps3 : cellO x37 (some ⟨c22, 3, Option.none⟩) = some (.bool false) := cellO_ext (((((((((((((((e23).trans e24).trans e25).trans e26).trans e27).trans e28).trans e29).trans e30).trans e31).trans e32).trans e33).trans e34).trans e35).trans e36).trans e37) (sv_get b22 rfl)
 have pps4 : cellO x37 (some ⟨c22, 4, Option.none⟩) = some (gvs) := cellO_ext (((((((((((((((e23).trans e24).trans e25).trans e26).trans e27).trans e28).trans e29).trans e30).trans e31).trans e32).trans e33).trans e34).trans e35).trans e36).trans e37) (sv_get b22 rfl)
 obtain ⟨dvd, nvd, gvd, hkd, fdd, fnd, fgd⟩ := rad.ex
 have hkd' : csd = [vi 5, dvd, nvd, .bool false, gvd] := hkd
 clear hkd
 subst hkd'
 have ppd0 : cellO x37 (some ⟨c25, 0, Option.none⟩) = some (vi 5) := cellO_ext ((((((((((((e26).trans e27).trans e28).trans e29).trans e30).trans e31).trans e32).trans e33).trans e34).trans e35).trans e36).trans e37) (sv_get b25 rfl)
 have ppd1 : cellO x37 (some ⟨c25, 1, Option.none⟩) = some (dvd) := cellO_ext ((((((((((((e26).trans e27).trans e28).trans e29).trans e30).trans e31).trans e32).trans e33).trans e34).trans e35).trans e36).trans e37) (sv_get b25 rfl)
 have ppd2 : cellO x37 (some ⟨c25, 2, Option.none⟩) = some (nvd) := cellO_ext ((((((((((((e26).trans e27).trans e28).trans e29).trans e30).trans e31).trans e32).trans e33).trans e34).trans e35).trans e36).trans e37) (sv_get b25 rfl)
 have ppd3 : cellO x37 (some ⟨c25, 3, Option.none⟩) = some (.bool false) := cellO_ext ((((((((((((e26).trans e27).trans e28).trans e29).trans e30).trans e31).trans e32).trans e33).trans e34).trans e35).trans e36).trans e37) (sv_get b25 rfl)
 have ppd4 : cellO x37 (some ⟨c25, 4, Option.none⟩) = some (gvd) := cellO_ext ((((((((((((e26).trans e27).trans e28).trans e29).trans e30).trans e31).trans e32).trans e33).trans e34).trans e35).trans e36).trans e37) (sv_get b25 rfl)
 obtain ⟨dvw, nvw, gvw, hkw, fdw, fnw, fgw⟩ := raw.ex
 have hkw' : csw = [vi 5, dvw, nvw, .bool true, gvw] := hkw
 clear hkw
 subst hkw'
 have ppw0 : cellO x37 (some ⟨c28, 0, Option.none⟩) = some (vi 5) := cellO_ext (((((((((e29).trans e30).trans e31).trans e32).trans e33).trans e34).trans e35).trans e36).trans e37) (sv_get b28 rfl)
 have ppw1 : cellO x37 (some ⟨c28, 1, Option.none⟩) = some (dvw) := cellO_ext (((((((((e29).trans e30).trans e31).trans e32).trans e33).trans e34).trans e35).trans e36).trans e37) (sv_get b28 rfl)
 have ppw2 : cellO x37 (some ⟨c28, 2, Option.none⟩) = some (nvw) := cellO_ext (((((((((e29).trans e30).trans e31).trans e32).trans e33).trans e34).trans e35).trans e36).trans e37) (sv_get b28 rfl)
 have ppw3 : cellO x37 (some ⟨c28, 3, Option.none⟩) = some (.bool true) := cellO_ext (((((((((e29).trans e30).trans e31).trans e32).trans e33).trans e34).trans e35).trans e36).trans e37) (sv_get b28 rfl)
 have ppw4 : cellO x37 (some ⟨c28, 4, Option.none⟩) = some (gvw) := cellO_ext (((((((((e29).trans e30).trans e31).trans e32).trans e33).trans e34).trans e35).trans e36).trans e37) (sv_get b28 rfl)
 obtain ⟨dvv, nvv, gvv, hkv, fdv, fnv, fgv⟩ := rav.ex
 have hkv' : csv = [vi 3, dvv, nvv, .bool false, gvv] := hkv
 clear hkv
 subst hkv'
 have ppv0 : cellO x37 (some ⟨c31, 0, Option.none⟩) = some (vi 3) := cellO_ext ((((((e32).trans e33).trans e34).trans e35).trans e36).trans e37) (sv_get b31 rfl)
 have ppv1 : cellO x37 (some ⟨c31, 1, Option.none⟩) = some (dvv) := cellO_ext ((((((e32).trans e33).trans e34).trans e35).trans e36).trans e37) (sv_get b31 rfl)
 have ppv2 : cellO x37 (some ⟨c31, 2, Option.none⟩) = some (nvv) := cellO_ext ((((((e32).trans e33).trans e34).trans e35).trans e36).trans e37) (sv_get b31 rfl)
 have ppv3 : cellO x37 (some ⟨c31, 3, Option.none⟩) = some (.bool false) := cellO_ext ((((((e32).trans e33).trans e34).trans e35).trans e36).trans e37) (sv_get b31 rfl)
 have ppv4 : cellO x37 (some ⟨c31, 4, Option.none⟩) = some (gvv) := cellO_ext ((((((e32).trans e33).trans e34).trans e35).trans e36).trans e37) (sv_get b31 rfl)
 obtain ⟨dve, nve, gve, hke, fde, fne, fge⟩ := rae.ex
 have hke' : cse = [vi 2, dve, nve, .bool false, gve] := hke
 clear hke
 subst hke'
 have ppe0 : cellO x37 (some ⟨c34, 0, Option.none⟩) = some (vi 2) := cellO_ext (((e35).trans e36).trans e37) (sv_get b34 rfl)
 have ppe1 : cellO x37 (some ⟨c34, 1, Option.none⟩) = some (dve) := cellO_ext (((e35).trans e36).trans e37) (sv_get b34 rfl)
 have ppe2 : cellO x37 (some ⟨c34, 2, Option.none⟩) = some (nve) := cellO_ext (((e35).trans e36).trans e37) (sv_get b34 rfl)
 have ppe3 : cellO x37 (some ⟨c34, 3, Option.none⟩) = some (.bool false) := cellO_ext (((e35).trans e36).trans e37) (sv_get b34 rfl)
 have ppe4 : cellO x37 (some ⟨c34, 4, Option.none⟩) = some (gve) := cellO_ext (((e35).trans e36).trans e37) (sv_get b34 rfl)
 obtain ⟨dvp, nvp, gvp, hkp, fdp, fnp, fgp⟩ := rap.ex
 have hkp' : csp = [vi 7, dvp, nvp, .bool false, gvp] := hkp
 clear hkp
 subst hkp'
 have ppp0 : cellO x37 (some ⟨c37, 0, Option.none⟩) = some (vi 7) := cellO_ext (Keep.refl _ x37) (sv_get b37 rfl)
 have ppp1 : cellO x37 (some ⟨c37, 1, Option.none⟩) = some (dvp) := cellO_ext (Keep.refl _ x37) (sv_get b37 rfl)
 have ppp2 : cellO x37 (some ⟨c37, 2, Option.none⟩) = some (nvp) := cellO_ext (Keep.refl _ x37) (sv_get b37 rfl)
 have ppp3 : cellO x37 (some ⟨c37, 3, Option.none⟩) = some (.bool false) := cellO_ext (Keep.refl _ x37) (sv_get b37 rfl)
 have ppp4 : cellO x37 (some ⟨c37, 4, Option.none⟩) = some (gvp) := cellO_ext (Keep.refl _ x37) (sv_get b37 rfl)
 obtain ⟨ada, cda, hda, _⟩ := fda.open
 have hda' : dva = .slice ada 1 cda := hda
 obtain ⟨ans, cns, hns, _⟩ := id fns
 have hns' : nvs = .slice ans 2 cns := hns
 obtain ⟨anw, cnw, hnw, _⟩ := id fnw
 have hnw' : nvw = .slice anw 1 cnw := hnw
 obtain ⟨ags, cgs, hgs, _, hgg⟩ := fgs.open
 have hgs' : gvs = .slice ags 1 cgs := hgs
 obtain ⟨cg0, hcg0, hCg0⟩ := hgg 0 (by decide)
 obtain ⟨xg, rfl⟩ := Option.isSome_iff_exists.1 (cellsO_some hcg0)
 rw [Nat.zero_mul, adr_zero] at hcg0
 obtain ⟨hv0, dv0, rfl, _, hd0⟩ := hCg0
 obtain ⟨ad0, cd0, hd0', _⟩ := hd0.open
 have hd0'' : dv0 = .slice ad0 1 cd0 := hd0'
 have hcg1 : cellO x37 (adr (some xg) 1) = some (.slice ad0 1 cd0) := by
  have := cell_of_cells (cellsO_ext ((((((((((((((((e22).trans e23).trans e24).trans e25).trans e26).trans e27).trans e28).trans e29).trans e30).trans e31).trans e32).trans e33).trans e34).trans e35).trans e36).trans e37) hcg0) (j := 1) rfl
  rw [hd0''] at this
  exact this
 rw [hda'] at ppa1
 rw [hns'] at pps2
 rw [hnw'] at ppw2
 rw [hgs'] at pps4
 have hz0 : (0 : Int) ≤ 0 := by omega
 have h01 : (0 : Int) < ((1 : Nat) : Int) := by omega
 have i1 : decide ((1 : Int) = 1) = true := rfl
 have i2 : decide ((2 : Int) = 2) = true := rfl
 have i3 : decide ((3 : Int) = 3) = true := rfl
 have i4 : decide ((4 : Int) = 4) = true := rfl
 have i5 : decide ((5 : Int) = 5) = true := rfl
 have i7 : decide ((7 : Int) = 7) = true := rfl
 have l1 : decide (((1 : Nat) : Int) = 1) = true := rfl
 have l2 : decide (((2 : Nat) : Int) = 2) = true := rfl
 refine rq ?_; intro gd K hgd hK
 have hg3 : ∀ n σ b, wantV gd n σ (some (3, b)) = boolIs (ev n σ (.tmp 64)) b := (fun n σ b => by rw [wantV_some, show gd 3 = some 64 from (by rw [hgd]; rfl)]; rfl); have hg9 : ∀ n σ b, wantV gd n σ (some (9, b)) = boolIs (ev n σ (.tmp 70)) b := (fun n σ b => by rw [wantV_some, show gd 9 = some 70 from (by rw [hgd]; rfl)]; rfl); have hg14 : ∀ n σ b, wantV gd n σ (some (14, b)) = boolIs (ev n σ (.tmp 75)) b := (fun n σ b => by rw [wantV_some, show gd 14 = some 75 from (by rw [hgd]; rfl)]; rfl); have hg20 : ∀ n σ b, wantV gd n σ (some (20, b)) = boolIs (ev n σ (.tmp 81)) b := (fun n σ b => by rw [wantV_some, show gd 20 = some 81 from (by rw [hgd]; rfl)]; rfl); have hg26 : ∀ n σ b, wantV gd n σ (some (26, b)) = boolIs (ev n σ (.tmp 87)) b := (fun n σ b => by rw [wantV_some, show gd 26 = some 87 from (by rw [hgd]; rfl)]; rfl); have hg35 : ∀ n σ b, wantV gd n σ (some (35, b)) = boolIs (ev n σ (.tmp 96)) b := (fun n σ b => by rw [wantV_some, show gd 35 = some 96 from (by rw [hgd]; rfl)]; rfl); have hg40 : ∀ n σ b, wantV gd n σ (some (40, b)) = boolIs (ev n σ (.tmp 101)) b := (fun n σ b => by rw [wantV_some, show gd 40 = some 101 from (by rw [hgd]; rfl)]; rfl); have hg46 : ∀ n σ b, wantV gd n σ (some (46, b)) = boolIs (ev n σ (.tmp 107)) b := (fun n σ b => by rw [wantV_some, show gd 46 = some 107 from (by rw [hgd]; rfl)]; rfl); have hg51 : ∀ n σ b, wantV gd n σ (some (51, b)) = boolIs (ev n σ (.tmp 112)) b := (fun n σ b => by rw [wantV_some, show gd 51 = some 112 from (by rw [hgd]; rfl)]; rfl); have hg55 : ∀ n σ b, wantV gd n σ (some (55, b)) = boolIs (ev n σ (.tmp 116)) b := (fun n σ b => by rw [wantV_some, show gd 55 = some 116 from (by rw [hgd]; rfl)]; rfl); have hg61 : ∀ n σ b, wantV gd n σ (some (61, b)) = boolIs (ev n σ (.tmp 122)) b := (fun n σ b => by rw [wantV_some, show gd 61 = some 122 from (by rw [hgd]; rfl)]; rfl); have hg66 : ∀ n σ b, wantV gd n σ (some (66, b)) = boolIs (ev n σ (.tmp 127)) b := (fun n σ b => by rw [wantV_some, show gd 66 = some 127 from (by rw [hgd]; rfl)]; rfl); have hg71 : ∀ n σ b, wantV gd n σ (some (71, b)) = boolIs (ev n σ (.tmp 132)) b := (fun n σ b => by rw [wantV_some, show gd 71 = some 132 from (by rw [hgd]; rfl)]; rfl); have hg76 : ∀ n σ b, wantV gd n σ (some (76, b)) = boolIs (ev n σ (.tmp 137)) b := (fun n σ b => by rw [wantV_some, show gd 76 = some 137 from (by rw [hgd]; rfl)]; rfl); have hg81 : ∀ n σ b, wantV gd n σ (some (81, b)) = boolIs (ev n σ (.tmp 142)) b := (fun n σ b => by rw [wantV_some, show gd 81 = some 142 from (by rw [hgd]; rfl)]; rfl)
 simp only [List.toList_toArray, List.append_eq, List.cons_append, List.nil_append]
 try simp (disch := first | omega | assumption | rfl) only [↓reduceIte, go_sem, Nat.reduceLT, Nat.reduceEqDiff, Nat.reduceSub, ppa0, ppa1, ppa2, ppa3, ppa4, pps0, pps1, pps2, pps3, pps4, ppd0, ppd1, ppd2, ppd3, ppd4, ppw0, ppw1, ppw2, ppw3, ppw4, ppv0, ppv1, ppv2, ppv3, ppv4, ppe0, ppe1, ppe2, ppe3, ppe4, ppp0, ppp1, ppp2, ppp3, ppp4, hcg1, hz0, h01, decide_true, i1, i2, i3, i4, i5, i7, l1, l2, Nat.zero_add, Nat.add_zero, Nat.zero_mul, adr_zero, Int.toNat_zero, bi_undef, ↓hg3, ↓hg9, ↓hg14, ↓hg20, ↓hg26, ↓hg35, ↓hg40, ↓hg46, ↓hg51, ↓hg55, ↓hg61, ↓hg66, ↓hg71, ↓hg76, ↓hg81]
 refine bs_list (z := vs []) (l := [vs [112], vs [116]]) rfl rfl rfl rfl rfl rfl (fun v hv => by simp at hv; rcases hv with rfl | rfl <;> rfl) (by simp) ?_
 intro yA eA sA oA
 have rA : Row yA (.slice (some ⟨x37.heap.size, 0, Option.none⟩) 2 2) (([[112], [116]] : Nm).map vs) := oA.row
 try simp (disch := first | omega | assumption | rfl) only [↓reduceIte, go_sem, Nat.reduceLT, Nat.reduceEqDiff, Nat.reduceSub, hcg1, hz0, h01, decide_true, l1, l2, Nat.zero_add, Nat.add_zero, Nat.zero_mul, adr_zero, Int.toNat_zero, bi_undef, Bool.not_false, Bool.not_true, ↓hg3, ↓hg9, ↓hg14, ↓hg20, ↓hg26, ↓hg35, ↓hg40, ↓hg46, ↓hg51, ↓hg55, ↓hg61, ↓hg66, ↓hg71, ↓hg76, ↓hg81]
 refine Fn.mono (Same_ok yA nvd _ [[112], [116]] [[112], [116]] (fnd.ext ((((((((((((((e25).trans e26).trans e27).trans e28).trans e29).trans e30).trans e31).trans e32).trans e33).trans e34).trans e35).trans e36).trans e37).trans eA)) rA (checkN_lb (show checkN [[112], [116]] = 0 by kernel_rfl)) (checkN_lb (show checkN [[112], [116]] = 0 by kernel_rfl)) (by decide) (by decide)) ?_
 rintro _ yB ⟨rfl, eB⟩
 rw [show decide (foldN [[112], [116]] = foldN [[112], [116]]) = true from by kernel_rfl]
 have eAB := eA.trans eB
 have ppw0' := cellO_ext eAB ppw0
 have ppw3' := cellO_ext eAB ppw3
 have ppw2' := cellO_ext eAB ppw2
 have ppv0' := cellO_ext eAB ppv0
 have ppe0' := cellO_ext eAB ppe0
 have ppp0' := cellO_ext eAB ppp0
 have da := cellsO_ext ((((((((((((((((((((e20).trans e21).trans e22).trans e23).trans e24).trans e25).trans e26).trans e27).trans e28).trans e29).trans e30).trans e31).trans e32).trans e33).trans e34).trans e35).trans e36).trans e37)).trans eAB) (sv_cells (n := 5) b19 rfl)
 have ds := cellsO_ext (((((((((((((((((e23).trans e24).trans e25).trans e26).trans e27).trans e28).trans e29).trans e30).trans e31).trans e32).trans e33).trans e34).trans e35).trans e36).trans e37)).trans eAB) (sv_cells (n := 5) b22 rfl)
 have r1 := raa.ext (((((((((((((((((((((e19).trans e20).trans e21).trans e22).trans e23).trans e24).trans e25).trans e26).trans e27).trans e28).trans e29).trans e30).trans e31).trans e32).trans e33).trans e34).trans e35).trans e36).trans e37)).trans eAB)
 have r2 := ras.ext ((((((((((((((((((e22).trans e23).trans e24).trans e25).trans e26).trans e27).trans e28).trans e29).trans e30).trans e31).trans e32).trans e33).trans e34).trans e35).trans e36).trans e37)).trans eAB)
 have e0B : Ext x14 yB := (((((((((((((((((((((((e15).trans e16).trans e17).trans e18).trans e19).trans e20).trans e21).trans e22).trans e23).trans e24).trans e25).trans e26).trans e27).trans e28).trans e29).trans e30).trans e31).trans e32).trans e33).trans e34).trans e35).trans e36).trans e37).trans eAB
 try simp (disch := first | omega | assumption | rfl) only [↓reduceIte, go_sem, Nat.reduceLT, Nat.reduceEqDiff, Nat.reduceSub, ppw0', ppw3', ppw2', ppv0', ppe0', ppp0', da, hcg1, hz0, h01, decide_true, l1, l2, Nat.zero_add, Nat.add_zero, Nat.zero_mul, adr_zero, Int.toNat_zero, bi_undef, Bool.not_false, Bool.not_true, ↓hg3, ↓hg9, ↓hg14, ↓hg20, ↓hg26, ↓hg35, ↓hg40, ↓hg46, ↓hg51, ↓hg55, ↓hg61, ↓hg66, ↓hg71, ↓hg76, ↓hg81]
 trace_state
 refine Fn.mono (LkSame_ok e0B r1 r1 oka oka) ?_
 rintro _ yC ⟨rfl, eC⟩
 rw [sameRes_self]
 have da' := cellsO_ext eC da
 have ds' := cellsO_ext eC ds
 try simp (disch := first | omega | assumption | rfl) only [↓reduceIte, go_sem, Nat.reduceLT, Nat.reduceEqDiff, Nat.reduceSub, da', ds', hcg1, hz0, h01, decide_true, l1, l2, Nat.zero_add, Nat.add_zero, Nat.zero_mul, adr_zero, Int.toNat_zero, bi_undef, Bool.not_false, Bool.not_true, ↓hg3, ↓hg9, ↓hg14, ↓hg20, ↓hg26, ↓hg35, ↓hg40, ↓hg46, ↓hg51, ↓hg55, ↓hg61, ↓hg66, ↓hg71, ↓hg76, ↓hg81]
 refine Fn.mono (LkSame_ok (e0B.trans eC) (r1.ext eC) (r2.ext eC) oka oks) ?_
 rintro _ yD ⟨rfl, eD⟩
 rw [show sameRes ⟨1, [kA], [], false, []⟩ ⟨4, [kNsD], [[115], [111]], false, [(kNs, [kA])]⟩ = false from by kernel_rfl]
 try simp (disch := first | omega | assumption | rfl) only [↓reduceIte, go_sem, Nat.reduceLT, Nat.reduceEqDiff, Nat.reduceSub, hcg1, hz0, h01, decide_true, l1, l2, Nat.zero_add, Nat.add_zero, Nat.zero_mul, adr_zero, Int.toNat_zero, bi_undef, Bool.not_false, Bool.not_true, ↓hg3, ↓hg9, ↓hg14, ↓hg20, ↓hg26, ↓hg35, ↓hg40, ↓hg46, ↓hg51, ↓hg55, ↓hg61, ↓hg66, ↓hg71, ↓hg76, ↓hg81]
 refine hK _ _ ?_; clear hK hgd; clear K; try clear gd
 repeat refine c_r ?_
 refine rt0 Tryz.ntmps15 ?_
 exact ⟨rfl, (((((((((((((((((((((((((((((((((((((((e1).trans e2).trans e3).trans e4).trans e5).trans e6).trans e7).trans e8).trans e9).trans e10).trans e11).trans e12).trans e13).trans e14).trans e15).trans e16).trans e17).trans e18).trans e19).trans e20).trans e21).trans e22).trans e23).trans e24).trans e25).trans e26).trans e27).trans e28).trans e29).trans e30).trans e31).trans e32).trans e33).trans e34).trans e35).trans e36).trans e37).trans eAB).trans eC).trans eD⟩
end Go.Proofs.YtopbbjdembnfdaaGreat
