/-
  Texts of a proof, joined: L5.
  Conditions: none.
-/
import Derived.Test.YtopbbjdembnfdaaGreatJF09
set_option linter.unusedVariables false
set_option linter.unusedSimpArgs false
set_option linter.defProp false
set_option linter.unnecessarySimpa false
namespace Go.Proofs.YtopbbjdembnfdaaGreat
open Go
set_option maxRecDepth 10000

theorem NmM.fold {n : Nm} (h : NmM n) : NmM (foldN n) := ⟨fun l hl => by
 unfold foldN at hl
 obtain ⟨m, hm, rfl⟩ := List.mem_map.1 hl
 rw [foldL_length]
 exact h.lb m hm, by rw [foldN_len]; exact h.len⟩

set_option maxHeartbeats 2000000 in
theorem LookFolds_ok (hkn : KnownOk) (W : World) {ov lv qv : Value} {o q : Nm} {R : List RecL} {t : Int} (ho : Row W ov (o.map vs)) (hl : Rows 7 (RecAt W) W lv R) (hv : NumR R) (hq : Row W qv (q.map vs)) :
  Fn Tryz.prog 7 #[ov, lv, qv, vi t] W (fun v w' => v = .bool true ∧ Ext W w') := by
 refine enter Tryz.func7 Tryz.ntmps7 rfl rfl ?_
 repeat refine c_r ?_
 refine rg0 ?_
 repeat refine c_r ?_
 refine rq ?_; intro gd K hgd hK
 try simp (disch := first | omega | assumption | rfl) only [↓reduceIte, go_sem, Nat.reduceLT, Nat.reduceEqDiff, Nat.reduceSub]
 refine Fn.mono (hkn W) ?_
 rintro _ w1 ⟨rfl, hE1⟩
 try simp (disch := first | omega | assumption | rfl) only [↓reduceIte, go_sem, Nat.reduceLT, Nat.reduceEqDiff, Nat.reduceSub]
 refine hK _ _ ?_; clear hK hgd; clear K; try clear gd
 repeat refine c_r ?_
 refine W_cond (t := false) (vr0) (fun h => by cases h) ?_
 intro _
 repeat refine c_r ?_
 refine W_mono (Q := fun e σ' ds' v' => e = .normal ∧ ds' = [] ∧ σ' 0 = ov ∧ σ' 1 = lv ∧ σ' 2 = qv ∧ σ' 3 = vi t ∧ Ext W v' ∧ ∃ bb, σ' 20 = .bool bb ∧ (bb = false → goodN o = true ∧ GoodRs R ∧ goodN q = true)) ?_ ?_
 ·refine rq ?_; intro gd K hgd hK
  have hg4 : ∀ n σ b, wantV gd n σ (some (4, b)) = boolIs (ev n σ (.tmp 16)) b := (fun n σ b => by rw [wantV_some, show gd 4 = some 16 from (by rw [hgd]; rfl)]; rfl)
  try simp (disch := first | omega | assumption | rfl) only [↓reduceIte, go_sem, Nat.reduceLT, Nat.reduceEqDiff, Nat.reduceSub]
  refine Fn.mono (ZGood_ok hE1 (ho.ext hE1) (hl.ext hE1)) ?_
  rintro _ w2 ⟨hE2, b, rfl, hb⟩
  cases b with
  | false =>
   try simp (disch := first | omega | assumption | rfl) only [↓reduceIte, go_sem, Nat.reduceLT, Nat.reduceEqDiff, Nat.reduceSub, Bool.not_false, ↓hg4]
   refine hK _ _ ?_; clear hK hgd; clear K; try clear gd
   exact ⟨rfl, rfl, vq0, vq0, vq0, vq0, hE1.trans hE2, _, vr0, fun h => by cases h⟩
  | true =>
   try simp (disch := first | omega | assumption | rfl) only [↓reduceIte, go_sem, Nat.reduceLT, Nat.reduceEqDiff, Nat.reduceSub, Bool.not_true, ↓hg4]
   refine Fn.mono (NGood_ok w2 qv q (hq.ext (hE1.trans hE2))) ?_
   rintro _ w3 ⟨rfl, hE3⟩
   try simp (disch := first | omega | assumption | rfl) only [↓reduceIte, go_sem, Nat.reduceLT, Nat.reduceEqDiff, Nat.reduceSub, ↓hg4]
   refine hK _ _ ?_; clear hK hgd; clear K; try clear gd
   exact ⟨rfl, rfl, vq0, vq0, vq0, vq0, (hE1.trans hE2).trans hE3, _, vr0, fun h => ⟨(hb rfl).1, (hb rfl).2, by simpa using h⟩⟩
 clear hE1 w1
 rintro _ σ1 _ w1 ⟨rfl, rfl, h0, h1, h2, h3, hE1, bb, h20, hbb⟩
 repeat refine c_r ?_
 refine W_cond (t := bb) ((vq1 h20)) ?_ ?_
 ·intro _
  repeat (first | refine c_r ?_ | refine rg0 ?_)
  refine rt0 Tryz.ntmps7 ?_
  exact ⟨rfl, hE1⟩
 intro hb
 obtain ⟨go, gR, gq⟩ := hbb hb
 have hC := good_canon gR hv
 have hrok := good_ok gR hv
 have hRl := gR.len
 have mq : NmM q := (goodN_g gq).m
 have mf : NmM (foldN q) := mq.fold
 have ql := mq.len
 have ka : ResOk (lookL o (canonL R) q t) := look_ok hC mq
 have kb : ResOk (lookL o (canonL R) (foldN q) t) := look_ok hC mf
 repeat refine c_r ?_
 refine rq ?_; intro gd K hgd hK
 try simp (disch := first | omega | assumption | rfl) only [↓reduceIte, go_sem, Nat.reduceLT, Nat.reduceEqDiff, Nat.reduceSub, h0, h1]
 refine Fn.mono (ZNew_ok hE1 (ho.ext hE1) (hl.ext hE1) hrok (by omega)) ?_
 rintro _ w2 ⟨hE2, cv, rfl, hcv⟩
 have hE12 := hE1.trans hE2
 try simp (disch := first | omega | assumption | rfl) only [↓reduceIte, go_sem, Nat.reduceLT, Nat.reduceEqDiff, Nat.reduceSub]
 refine sv_new (P := Tryz.prog) (l := [ov, cv]) rfl (two_one ho.isOne hcv.isOne) rfl rfl ?_
 intro w3 hE3 hs3 hB3
 try simp (disch := first | omega | assumption | rfl) only [↓reduceIte, go_sem, Nat.reduceLT, Nat.reduceEqDiff, Nat.reduceSub]
 refine hK _ _ ?_; clear hK hgd; clear K; try clear gd
 have hE13 := hE12.trans hE3
 have d3 := sv_cells (n := 2) hB3 rfl
 have hcv3 := hcv.ext hE3
 repeat refine c_r ?_
 refine W_drw (fun _ => false) [(0, true), (1, true), (2, true), (4, true), (5, true), (7, true), (3, false), (6, false), (8, false), (9, false), (10, true), (11, true), (13, true), (12, false), (14, false), (15, true), (16, true)] NoS mixed (by kernel_rfl) ?_; intro gd K x hgd hx hxe hK; clear hxe
 have hg10 : ∀ n σ b, wantV gd n σ (some (10, b)) = boolIs (ev n σ (.tmp 34)) b := (fun n σ b => by rw [wantV_some, show gd 10 = some 34 from (by rw [hgd]; rfl)]; rfl)
 have d3x := cellsO_ext hx d3
 have hxW := hE13.trans hx
 have hcvx := hcv3.ext hx
 simp (disch := first | omega | assumption | rfl) only [↓reduceIte, go_sem, Nat.reduceLT, Nat.reduceEqDiff, Nat.reduceSub, h2, h3, d3x]
 refine Fn.mono (Zone_ok (good_zone hC hxW (ho.ext hxW) hcvx go) hC.gd (hq.ext hxW) mq) ?_
 rintro _ y1 ⟨hy1, cs, rfl, hres⟩
 refine ⟨.inr hy1, ?_⟩
 have hW1 := hxW.trans hy1
 simp (disch := first | omega | assumption | rfl) only [↓reduceIte, go_sem, Nat.reduceLT, Nat.reduceEqDiff, Nat.reduceSub, h2, h3]
 refine Fn.mono (Fold_ok y1 qv q (hq.ext hW1) mq.LB (by omega)) ?_
 rintro fv y2 ⟨hfv, hy2⟩
 refine ⟨.inr hy2, ?_⟩
 have hW2 := hW1.trans hy2
 have d3y := cellsO_ext (hy1.trans hy2) d3x
 simp (disch := first | omega | assumption | rfl) only [↓reduceIte, go_sem, Nat.reduceLT, Nat.reduceEqDiff, Nat.reduceSub, h3, d3y]
 refine Fn.mono (Zone_ok (good_zone hC hW2 (ho.ext hW2) (hcvx.ext (hy1.trans hy2)) go) hC.gd hfv mf) ?_
 rintro _ y3 ⟨hy3, cs2, rfl, hres2⟩
 refine ⟨.inr hy3, ?_⟩
 have hW3 := hW2.trans hy3
 simp (disch := first | omega | assumption | rfl) only [↓reduceIte, go_sem, Nat.reduceLT, Nat.reduceEqDiff, Nat.reduceSub]
 refine Fn.mono (LkSame_ok hW3 ((hres.at hW1).ext (hy2.trans hy3)) (hres2.at hW3) ka kb) ?_
 rintro _ y4 ⟨rfl, hy4⟩
 refine ⟨.inr hy4, ?_⟩
 have hW4 := hW3.trans hy4
 rw [look_fold.same]
 simp (disch := first | omega | assumption | rfl) only [↓reduceIte, go_sem, Nat.reduceLT, Nat.reduceEqDiff, Nat.reduceSub, h2, ↓hg10]
 refine Fn.mono (Fold_ok y4 qv q (hq.ext hW4) mq.LB (by omega)) ?_
 rintro fv2 y5 ⟨hfv2, hy5⟩
 refine ⟨.inr hy5, ?_⟩
 have hW5 := hW4.trans hy5
 simp (disch := first | omega | assumption | rfl) only [↓reduceIte, go_sem, Nat.reduceLT, Nat.reduceEqDiff, Nat.reduceSub, h2, ↓hg10]
 refine Fn.mono (RSame_ok y5 _ _ _ _ hfv2 (hq.ext hW5) mf.LB mq.LB (by rw [foldN_len]; omega) (by omega)) ?_
 rintro _ y6 ⟨rfl, hy6⟩
 refine ⟨.inr hy6, ?_⟩
 rw [foldN_two]
 simp (disch := first | omega | assumption | rfl) only [↓reduceIte, go_sem, Nat.reduceLT, Nat.reduceEqDiff, Nat.reduceSub, ↓hg10]
 refine hK _ _ ?_; clear hK hgd; clear K; try clear gd
 repeat refine c_r ?_
 refine rt0 Tryz.ntmps7 ?_
 exact ⟨by simp, hW5.trans hy6⟩
end Go.Proofs.YtopbbjdembnfdaaGreat
