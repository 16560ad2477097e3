/-
  The law TreeDeepest: the walk.
  Conditions: none.
-/
import Derived.Test.YtciadbhnodgpgaaLK
set_option linter.unusedVariables false
set_option linter.unusedSimpArgs false
set_option linter.defProp false
namespace Go.Proofs.Ytciadbhnodgpgaa
open Go Go.Proofs.Ytciadbhnodgpgaa.T_int
set_option maxRecDepth 10000

theorem few_false {n : Nm} (h : few n = true) : n.length ≤ 140 ∧ LB n := ⟨few_len h, few_lb h⟩

theorem tdeep_ok (w : World) (lv qv : Value) (L : List Nm) (q : Nm) (hl : NamesAt w lv L) (hq : Row w qv (q.map vs)) :
    Fn Try.prog 6 #[lv, qv] w (fun v w' => v = .bool true ∧ Ext w w') := by
  obtain ⟨vals, ⟨la, lc, rfl, hlc, hla⟩, hvl, hrows⟩ := hl
  have hq0 := hq
  obtain ⟨qa, qc, rfl, hqc, hqa⟩ := hq
  simp only [List.length_map] at *
  refine enter Try.func6 Try.ntmps6 rfl rfl ?_
  repeat (with_reducible first | refine W_seq ?_ | refine W_block ?_ | refine W_skip ?_ | refine W_ret ?_ | refine W_exit ?_ | refine thenQ_normal ?_ | refine thenQ_exit ?_ | refine thenQ_ret ?_ | refine blockQ_normal ?_ | refine blockQ_ret ?_ | refine blockQ_same ?_ | refine blockQ_other rfl ?_)
  refine W_reg (by rfl) ?_; intro gd K hgd hK; simp (disch := first | omega | assumption | rfl) only [↓reduceIte, go_sem, Nat.reduceLT, Nat.reduceEqDiff, Nat.reduceSub]; refine hK _ _ ?_; clear hK hgd; clear K gd
  repeat (with_reducible first | refine W_seq ?_ | refine W_block ?_ | refine W_skip ?_ | refine W_ret ?_ | refine W_exit ?_ | refine thenQ_normal ?_ | refine thenQ_exit ?_ | refine thenQ_ret ?_ | refine blockQ_normal ?_ | refine blockQ_ret ?_ | refine blockQ_same ?_ | refine blockQ_other rfl ?_)
  refine W_reg (by rfl) ?_; intro gd K hgd hK
  try simp (disch := first | omega | assumption | rfl) only [↓reduceIte, go_sem, Nat.reduceLT, Nat.reduceEqDiff, Nat.reduceSub]
  refine Fn.mono (known_ok w) ?_
  rintro _ w1 ⟨rfl, hE1⟩
  try simp (disch := first | omega | assumption | rfl) only [↓reduceIte, go_sem, Nat.reduceLT, Nat.reduceEqDiff, Nat.reduceSub]
  refine hK _ _ ?_; clear hK hgd; clear K; try clear gd
  repeat (with_reducible first | refine W_seq ?_ | refine W_block ?_ | refine W_skip ?_ | refine W_ret ?_ | refine W_exit ?_ | refine thenQ_normal ?_ | refine thenQ_exit ?_ | refine thenQ_ret ?_ | refine blockQ_normal ?_ | refine blockQ_ret ?_ | refine blockQ_same ?_ | refine blockQ_other rfl ?_)
  refine W_cond (by simp only [↓reduceIte, go_sem, Nat.reduceLT, Nat.reduceEqDiff, Nat.reduceSub]; rfl) ?_ ?_
  · intro h; simp at h
  intro _
  repeat (with_reducible first | refine W_seq ?_ | refine W_block ?_ | refine W_skip ?_ | refine W_ret ?_ | refine W_exit ?_ | refine thenQ_normal ?_ | refine thenQ_exit ?_ | refine thenQ_ret ?_ | refine blockQ_normal ?_ | refine blockQ_ret ?_ | refine blockQ_same ?_ | refine blockQ_other rfl ?_)
  refine W_mono (Q := fun e σ' ds' v' => e = .normal ∧ ds' = [] ∧ σ' 0 = .slice la vals.length lc ∧ σ' 1 = .slice qa q.length qc ∧ Ext w v' ∧ ∃ b, σ' 17 = .bool b ∧ (b = false → vals.length ≤ 20 ∧ few q = true)) ?_ ?_
  · refine W_reg (by rfl) ?_; intro gd K hgd hK
    have hg3 : ∀ n σ b, wantV gd n σ (some (3, b)) = boolIs (ev n σ (.tmp 13)) b := (fun n σ b => by rw [wantV_some, show gd 3 = some 13 from (by rw [hgd]; rfl)]; rfl)
    by_cases h20 : (20 : Int) < vals.length
    · try simp (disch := first | omega | assumption | rfl) only [↓reduceIte, go_sem, Nat.reduceLT, Nat.reduceEqDiff, Nat.reduceSub, decide_eq_true h20, ↓hg3]
      refine hK _ _ ?_; clear hK hgd; clear K; try clear gd
      refine ⟨rfl, rfl, by simp only [↓reduceIte, go_sem, Nat.reduceLT, Nat.reduceEqDiff, Nat.reduceSub], by simp only [↓reduceIte, go_sem, Nat.reduceLT, Nat.reduceEqDiff, Nat.reduceSub], hE1, _, by simp only [↓reduceIte, go_sem, Nat.reduceLT, Nat.reduceEqDiff, Nat.reduceSub]; rfl, by simp⟩
    · try simp (disch := first | omega | assumption | rfl) only [↓reduceIte, go_sem, Nat.reduceLT, Nat.reduceEqDiff, Nat.reduceSub, decide_eq_false h20, ↓hg3]
      refine Fn.mono (Few_ok w1 _ q (hq0.ext hE1)) ?_
      rintro _ w2 ⟨rfl, hE2⟩
      try simp (disch := first | omega | assumption | rfl) only [↓reduceIte, go_sem, Nat.reduceLT, Nat.reduceEqDiff, Nat.reduceSub, decide_eq_false h20, ↓hg3]
      refine hK _ _ ?_; clear hK hgd; clear K; try clear gd
      refine ⟨rfl, rfl, by simp only [↓reduceIte, go_sem, Nat.reduceLT, Nat.reduceEqDiff, Nat.reduceSub], by simp only [↓reduceIte, go_sem, Nat.reduceLT, Nat.reduceEqDiff, Nat.reduceSub], hE1.trans hE2, _, by simp only [↓reduceIte, go_sem, Nat.reduceLT, Nat.reduceEqDiff, Nat.reduceSub]; rfl, fun h => ⟨by omega, by simpa using h⟩⟩
  rintro _ σ2 _ w2 ⟨rfl, rfl, e0, e1, hE2, b, e17, hb⟩
  clear hE1 w1
  repeat (with_reducible first | refine W_seq ?_ | refine W_block ?_ | refine W_skip ?_ | refine W_ret ?_ | refine W_exit ?_ | refine thenQ_normal ?_ | refine thenQ_exit ?_ | refine thenQ_ret ?_ | refine blockQ_normal ?_ | refine blockQ_ret ?_ | refine blockQ_same ?_ | refine blockQ_other rfl ?_)
  refine W_cond (by simp only [↓reduceIte, go_sem, Nat.reduceLT, Nat.reduceEqDiff, Nat.reduceSub, e17]; rfl) ?_ ?_
  · intro _
    repeat (with_reducible first | refine W_seq ?_ | refine W_block ?_ | refine W_skip ?_ | refine W_ret ?_ | refine W_exit ?_ | refine thenQ_normal ?_ | refine thenQ_exit ?_ | refine thenQ_ret ?_ | refine blockQ_normal ?_ | refine blockQ_ret ?_ | refine blockQ_same ?_ | refine blockQ_other rfl ?_)
    refine W_reg (by rfl) ?_; intro gd K hgd hK; simp (disch := first | omega | assumption | rfl) only [↓reduceIte, go_sem, Nat.reduceLT, Nat.reduceEqDiff, Nat.reduceSub]; refine hK _ _ ?_; clear hK hgd; clear K gd
    repeat (with_reducible first | refine W_seq ?_ | refine W_block ?_ | refine W_skip ?_ | refine W_ret ?_ | refine W_exit ?_ | refine thenQ_normal ?_ | refine thenQ_exit ?_ | refine thenQ_ret ?_ | refine blockQ_normal ?_ | refine blockQ_ret ?_ | refine blockQ_same ?_ | refine blockQ_other rfl ?_)
    refine ret_one (by simp) rfl Try.ntmps6 (by simp only [↓reduceIte, go_sem, Nat.reduceLT, Nat.reduceEqDiff, Nat.reduceSub]; rfl) ?_
    exact ⟨rfl, hE2⟩
  intro hbf
  obtain ⟨h20, hfew⟩ := hb hbf
  have hqb := few_lb hfew
  have hql := few_len hfew
  repeat (with_reducible first | refine W_seq ?_ | refine W_block ?_ | refine W_skip ?_ | refine W_ret ?_ | refine W_exit ?_ | refine thenQ_normal ?_ | refine thenQ_exit ?_ | refine thenQ_ret ?_ | refine blockQ_normal ?_ | refine blockQ_ret ?_ | refine blockQ_same ?_ | refine blockQ_other rfl ?_)
  refine W_reg (by rfl) ?_; intro gd K hgd hK
  try simp (disch := first | omega | assumption | rfl) only [↓reduceIte, go_sem, Nat.reduceLT, Nat.reduceEqDiff, Nat.reduceSub]
  refine Fn.mono (New_ti w w2 hE2) ?_
  rintro _ w3 ⟨hE3, tb, s0, rfl, hT0, _⟩
  try simp (disch := first | omega | assumption | rfl) only [↓reduceIte, go_sem, Nat.reduceLT, Nat.reduceEqDiff, Nat.reduceSub]
  refine hK _ _ ?_; clear hK hgd; clear K; try clear gd
  repeat (with_reducible first | refine W_seq ?_ | refine W_block ?_ | refine W_skip ?_ | refine W_ret ?_ | refine W_exit ?_ | refine thenQ_normal ?_ | refine thenQ_exit ?_ | refine thenQ_ret ?_ | refine blockQ_normal ?_ | refine blockQ_ret ?_ | refine blockQ_same ?_ | refine blockQ_other rfl ?_)
  refine W_reg (by rfl) ?_; intro gd K hgd hK; simp (disch := first | omega | assumption | rfl) only [↓reduceIte, go_sem, Nat.reduceLT, Nat.reduceEqDiff, Nat.reduceSub]; refine hK _ _ ?_; clear hK hgd; clear K gd
  repeat (with_reducible first | refine W_seq ?_ | refine W_block ?_ | refine W_skip ?_ | refine W_ret ?_ | refine W_exit ?_ | refine thenQ_normal ?_ | refine thenQ_exit ?_ | refine thenQ_ret ?_ | refine blockQ_normal ?_ | refine blockQ_ret ?_ | refine blockQ_same ?_ | refine blockQ_other rfl ?_)
  refine W_loop (fun m σ ds A => ds = [] ∧ ∃ (i : Nat) (s : TS) (ps : List (Nm × Value)), i + m = vals.length ∧ σ 6 = vi i ∧ σ 0 = .slice la vals.length lc ∧ σ 5 = ptrOf tb ∧ σ 1 = .slice qa q.length qc ∧ TI w A tb s ps ∧ ps.length = i ∧ shorts 20 ps) vals.length ?_ ?_
  · refine ⟨rfl, 0, s0, [], by omega, ?_, ?_, ?_, ?_, hT0, rfl, fun p h => (by cases h)⟩
    · simp only [↓reduceIte, go_sem, Nat.reduceLT, Nat.reduceEqDiff, Nat.reduceSub]; rfl
    · simp only [↓reduceIte, go_sem, Nat.reduceLT, Nat.reduceEqDiff, Nat.reduceSub, e0]
    · simp only [↓reduceIte, go_sem, Nat.reduceLT, Nat.reduceEqDiff, Nat.reduceSub]
    · simp only [↓reduceIte, go_sem, Nat.reduceLT, Nat.reduceEqDiff, Nat.reduceSub, e1]
  · rintro m σ ds A ⟨rfl, i, s, ps, him, h6, h0, h5, h1, hT, hpl, hsh⟩
    repeat (with_reducible first | refine W_seq ?_ | refine W_block ?_ | refine W_skip ?_ | refine W_ret ?_ | refine W_exit ?_ | refine thenQ_normal ?_ | refine thenQ_exit ?_ | refine thenQ_ret ?_ | refine blockQ_normal ?_ | refine blockQ_ret ?_ | refine blockQ_same ?_ | refine blockQ_other rfl ?_)
    refine W_reg (by rfl) ?_; intro gd K hgd hK; simp (disch := first | omega | assumption | rfl) only [↓reduceIte, go_sem, Nat.reduceLT, Nat.reduceEqDiff, Nat.reduceSub, h6, h0]; refine hK _ _ ?_; clear hK hgd; clear K gd
    repeat (with_reducible first | refine W_seq ?_ | refine W_block ?_ | refine W_skip ?_ | refine W_ret ?_ | refine W_exit ?_ | refine thenQ_normal ?_ | refine thenQ_exit ?_ | refine thenQ_ret ?_ | refine blockQ_normal ?_ | refine blockQ_ret ?_ | refine blockQ_same ?_ | refine blockQ_other rfl ?_)
    refine W_cond (by simp only [↓reduceIte, go_sem, Nat.reduceLT, Nat.reduceEqDiff, Nat.reduceSub]; rfl) ?_ ?_
    · intro hlt
      simp only [decide_eq_true_eq] at hlt
      have hla' := fun j h => cellO_ext hT.ext (hla j h)
      have hsa : la.isSome = true := some_of_cellO (hla i (by omega))
      have hri := hrows i (by omega) (by omega)
      obtain ⟨ia, ic, hiv, _, _⟩ := id hri
      obtain ⟨g, hg⟩ : ∃ g, L[i]'(by omega) = g := ⟨_, rfl⟩
      rw [hg] at hri hiv
      simp only [List.length_map] at hiv
      rw [hiv] at hri
      repeat (with_reducible first | refine W_seq ?_ | refine W_block ?_ | refine W_skip ?_ | refine W_ret ?_ | refine W_exit ?_ | refine thenQ_normal ?_ | refine thenQ_exit ?_ | refine thenQ_ret ?_ | refine blockQ_normal ?_ | refine blockQ_ret ?_ | refine blockQ_same ?_ | refine blockQ_other rfl ?_)
      refine W_mono (Q := fun e σ' ds' v' => e = .normal ∧ ds' = [] ∧ σ' 0 = σ 0 ∧ σ' 1 = σ 1 ∧ σ' 5 = σ 5 ∧ σ' 6 = σ 6 ∧ Ext A v' ∧ ∃ b, σ' 38 = .bool b ∧ (b = false → few g = true ∧ g.length ≤ 20)) ?_ ?_
      · refine W_reg (by rfl) ?_; intro gd K hgd hK
        have hg6 : ∀ n σ b, wantV gd n σ (some (6, b)) = boolIs (ev n σ (.tmp 31)) b := (fun n σ b => by rw [wantV_some, show gd 6 = some 31 from (by rw [hgd]; rfl)]; rfl)
        try simp (disch := first | omega | assumption | rfl) only [↓reduceIte, go_sem, Nat.reduceLT, Nat.reduceEqDiff, Nat.reduceSub, h6, h0, hla', hiv]
        refine Fn.mono (Few_ok A _ g (hri.ext hT.ext)) ?_
        rintro _ w2 ⟨rfl, hE2⟩
        have hla2 := fun j h => cellO_ext hE2 (hla' j h)
        by_cases hfg : few g = true
        · try simp (disch := first | omega | assumption | rfl) only [↓reduceIte, go_sem, Nat.reduceLT, Nat.reduceEqDiff, Nat.reduceSub, h6, h0, hla2, hiv, hfg, ↓hg6]
          refine hK _ _ ?_; clear hK hgd; clear K; try clear gd
          refine ⟨rfl, rfl, by simp only [↓reduceIte, go_sem, Nat.reduceLT, Nat.reduceEqDiff, Nat.reduceSub], by simp only [↓reduceIte, go_sem, Nat.reduceLT, Nat.reduceEqDiff, Nat.reduceSub], by simp only [↓reduceIte, go_sem, Nat.reduceLT, Nat.reduceEqDiff, Nat.reduceSub], by simp only [↓reduceIte, go_sem, Nat.reduceLT, Nat.reduceEqDiff, Nat.reduceSub, h6], hE2, _, by simp only [↓reduceIte, go_sem, Nat.reduceLT, Nat.reduceEqDiff, Nat.reduceSub]; rfl, fun h => ⟨hfg, by simp at h; omega⟩⟩
        · rw [Bool.not_eq_true] at hfg
          try simp (disch := first | omega | assumption | rfl) only [↓reduceIte, go_sem, Nat.reduceLT, Nat.reduceEqDiff, Nat.reduceSub, hfg, ↓hg6]
          refine hK _ _ ?_; clear hK hgd; clear K; try clear gd
          refine ⟨rfl, rfl, by simp only [↓reduceIte, go_sem, Nat.reduceLT, Nat.reduceEqDiff, Nat.reduceSub], by simp only [↓reduceIte, go_sem, Nat.reduceLT, Nat.reduceEqDiff, Nat.reduceSub], by simp only [↓reduceIte, go_sem, Nat.reduceLT, Nat.reduceEqDiff, Nat.reduceSub], by simp only [↓reduceIte, go_sem, Nat.reduceLT, Nat.reduceEqDiff, Nat.reduceSub, h6], hE2, _, by simp only [↓reduceIte, go_sem, Nat.reduceLT, Nat.reduceEqDiff, Nat.reduceSub]; rfl, fun h => by simp at h⟩
      · rintro _ σ9 _ w9 ⟨rfl, rfl, f0, f1, f5, f6, hE9, b, f38, hbg⟩
        repeat (with_reducible first | refine W_seq ?_ | refine W_block ?_ | refine W_skip ?_ | refine W_ret ?_ | refine W_exit ?_ | refine thenQ_normal ?_ | refine thenQ_exit ?_ | refine thenQ_ret ?_ | refine blockQ_normal ?_ | refine blockQ_ret ?_ | refine blockQ_same ?_ | refine blockQ_other rfl ?_)
        refine W_cond (by simp only [↓reduceIte, go_sem, Nat.reduceLT, Nat.reduceEqDiff, Nat.reduceSub, f38]; rfl) ?_ ?_
        · intro _
          repeat (with_reducible first | refine W_seq ?_ | refine W_block ?_ | refine W_skip ?_ | refine W_ret ?_ | refine W_exit ?_ | refine thenQ_normal ?_ | refine thenQ_exit ?_ | refine thenQ_ret ?_ | refine blockQ_normal ?_ | refine blockQ_ret ?_ | refine blockQ_same ?_ | refine blockQ_other rfl ?_)
          refine W_reg (by rfl) ?_; intro gd K hgd hK; simp (disch := first | omega | assumption | rfl) only [↓reduceIte, go_sem, Nat.reduceLT, Nat.reduceEqDiff, Nat.reduceSub]; refine hK _ _ ?_; clear hK hgd; clear K gd
          repeat (with_reducible first | refine W_seq ?_ | refine W_block ?_ | refine W_skip ?_ | refine W_ret ?_ | refine W_exit ?_ | refine thenQ_normal ?_ | refine thenQ_exit ?_ | refine thenQ_ret ?_ | refine blockQ_normal ?_ | refine blockQ_ret ?_ | refine blockQ_same ?_ | refine blockQ_other rfl ?_)
          refine ret_one (by simp) rfl Try.ntmps6 (by simp only [↓reduceIte, go_sem, Nat.reduceLT, Nat.reduceEqDiff, Nat.reduceSub]; rfl) ?_
          exact ⟨rfl, hT.ext.trans hE9⟩
        · intro hbf
          obtain ⟨hgf, hgl⟩ := hbg hbf
          have hT9 := hT.on hE9
          have hla9 := fun j h => cellO_ext hT9.ext (hla j h)
          rw [h0] at f0; rw [h1] at f1; rw [h5] at f5; rw [h6] at f6
          repeat (with_reducible first | refine W_seq ?_ | refine W_block ?_ | refine W_skip ?_ | refine W_ret ?_ | refine W_exit ?_ | refine thenQ_normal ?_ | refine thenQ_exit ?_ | refine thenQ_ret ?_ | refine blockQ_normal ?_ | refine blockQ_ret ?_ | refine blockQ_same ?_ | refine blockQ_other rfl ?_)
          refine W_reg (by rfl) ?_; intro gd K hgd hK
          try simp (disch := first | omega | assumption | rfl) only [↓reduceIte, go_sem, Nat.reduceLT, Nat.reduceEqDiff, Nat.reduceSub, f6, f0, f5, hla9, hiv]
          refine Fn.mono (Put_ti (n := g) (v := .int .i64 1) hT9 (hT9.still hri) (few_lb hgf) (by omega) rfl) ?_
          rintro _ w10 ⟨s', hT', _, _⟩
          try simp (disch := first | omega | assumption | rfl) only [↓reduceIte, go_sem, Nat.reduceLT, Nat.reduceEqDiff, Nat.reduceSub]
          refine hK _ _ ?_; clear hK hgd; clear K; try clear gd
          repeat (with_reducible first | refine W_seq ?_ | refine W_block ?_ | refine W_skip ?_ | refine W_ret ?_ | refine W_exit ?_ | refine thenQ_normal ?_ | refine thenQ_exit ?_ | refine thenQ_ret ?_ | refine blockQ_normal ?_ | refine blockQ_ret ?_ | refine blockQ_same ?_ | refine blockQ_other rfl ?_)
          refine W_reg (by rfl) ?_; intro gd K hgd hK; simp (disch := first | omega | assumption | rfl) only [↓reduceIte, go_sem, Nat.reduceLT, Nat.reduceEqDiff, Nat.reduceSub, f6]; refine hK _ _ ?_; clear hK hgd; clear K gd
          repeat (with_reducible first | refine W_seq ?_ | refine W_block ?_ | refine W_skip ?_ | refine W_ret ?_ | refine W_exit ?_ | refine thenQ_normal ?_ | refine thenQ_exit ?_ | refine thenQ_ret ?_ | refine blockQ_normal ?_ | refine blockQ_ret ?_ | refine blockQ_same ?_ | refine blockQ_other rfl ?_)
          refine ⟨m - 1, by omega, rfl, i + 1, s', _, by omega, by simp only [↓reduceIte, go_sem, Nat.reduceLT, Nat.reduceEqDiff, Nat.reduceSub]; push_cast; rfl, by simp only [↓reduceIte, go_sem, Nat.reduceLT, Nat.reduceEqDiff, Nat.reduceSub, f0], by simp only [↓reduceIte, go_sem, Nat.reduceLT, Nat.reduceEqDiff, Nat.reduceSub, f5], by simp only [↓reduceIte, go_sem, Nat.reduceLT, Nat.reduceEqDiff, Nat.reduceSub, f1], hT', by simp [hpl], fun p hp => ?_⟩
          rcases List.mem_append.1 hp with hp | hp
          · exact hsh p hp
          · rw [List.mem_singleton.1 hp]; exact ⟨few_lb hgf, hgl⟩
    · intro hge
      simp only [decide_eq_false_iff_not] at hge
      have g5 := h5
      have g1 := h1
      have hdl := dep_le s.names (foldN q)
      rw [foldN_len] at hdl
      obtain ⟨d, hd⟩ : ∃ d, dep s.names (foldN q) = d := ⟨_, rfl⟩
      rw [hd] at hdl
      have hin : sfx (foldN q) d ∈ s.names := by rw [← hd]; exact dep_in hT.ok (foldN q)
      have hsl : (sfx (foldN q) d).length = d := sfx_len (by rw [foldN_len]; exact hdl)
      have hsf : foldN (sfx (foldN q) d) = sfx (foldN q) d := by unfold sfx; rw [foldN_drop, foldN_idem]
      have hslb : LB (sfx (foldN q) d) := hqb.fold.drop _
      repeat (with_reducible first | refine W_seq ?_ | refine W_block ?_ | refine W_skip ?_ | refine W_ret ?_ | refine W_exit ?_ | refine thenQ_normal ?_ | refine thenQ_exit ?_ | refine thenQ_ret ?_ | refine blockQ_normal ?_ | refine blockQ_ret ?_ | refine blockQ_same ?_ | refine blockQ_other rfl ?_)
      refine W_reg (by rfl) ?_; intro gd K hgd hK
      try simp (disch := first | omega | assumption | rfl) only [↓reduceIte, go_sem, Nat.reduceLT, Nat.reduceEqDiff, Nat.reduceSub, g5, g1]
      refine Fn.mono (Deepest_ok (hT.lies) hT.ok (hq0.ext hT.ext) hqb (by omega)) ?_
      rw [hd]
      rintro dv w5 ⟨hdr, hE5⟩
      have hdr0 := hdr
      obtain ⟨da, dc, rfl, hdc, hda⟩ := hdr
      rw [List.length_map, hsl] at hdr0 ⊢
      try simp (disch := first | omega | assumption | rfl) only [↓reduceIte, go_sem, Nat.reduceLT, Nat.reduceEqDiff, Nat.reduceSub]
      refine hK _ _ ?_; clear hK hgd; clear K; try clear gd
      repeat (with_reducible first | refine W_seq ?_ | refine W_block ?_ | refine W_skip ?_ | refine W_ret ?_ | refine W_exit ?_ | refine thenQ_normal ?_ | refine thenQ_exit ?_ | refine thenQ_ret ?_ | refine blockQ_normal ?_ | refine blockQ_ret ?_ | refine blockQ_same ?_ | refine blockQ_other rfl ?_)
      refine W_reg (by rfl) ?_; intro gd K hgd hK
      have hg4 : ∀ n σ b, wantV gd n σ (some (4, b)) = boolIs (ev n σ (.tmp 52)) b := (fun n σ b => by rw [wantV_some, show gd 4 = some 52 from (by rw [hgd]; rfl)]; rfl); have hg10 : ∀ n σ b, wantV gd n σ (some (10, b)) = boolIs (ev n σ (.tmp 58)) b := (fun n σ b => by rw [wantV_some, show gd 10 = some 58 from (by rw [hgd]; rfl)]; rfl)
      try simp (disch := first | omega | assumption | rfl) only [↓reduceIte, go_sem, Nat.reduceLT, Nat.reduceEqDiff, Nat.reduceSub, g5, g1]
      refine Fn.mono (Has_ok (hT.on hE5).lies hT.ok hdr0 hslb (by omega)) ?_
      rintro _ w6 ⟨rfl, hE6⟩
      rw [hsf, decide_eq_true hin]
      try simp (disch := first | omega | assumption | rfl) only [↓reduceIte, go_sem, Nat.reduceLT, Nat.reduceEqDiff, Nat.reduceSub, g1, ↓hg4, ↓hg10]
      refine Fn.mono (Under_ok w6 _ _ q _ (hq0.ext ((hT.ext.trans hE5).trans hE6)) (hdr0.ext hE6) hqb hslb (by omega) (by omega)) ?_
      rintro _ w7 ⟨rfl, hE7⟩
      have hund : under q (sfx (foldN q) d) = true := by
        unfold under
        rw [hsl, decide_eq_true hdl, hsf, foldN_drop]
        simp [sfx, foldN_len]
      rw [hund]
      try simp (disch := first | omega | assumption | rfl) only [↓reduceIte, go_sem, Nat.reduceLT, Nat.reduceEqDiff, Nat.reduceSub, g1, decide_eq_false (show ¬ (q.length : Int) < d by omega), ↓hg4, ↓hg10]
      refine hK _ _ ?_; clear hK hgd; clear K; try clear gd
      have hE7' := (hE5.trans hE6).trans hE7
      repeat (with_reducible first | refine W_seq ?_ | refine W_block ?_ | refine W_skip ?_ | refine W_ret ?_ | refine W_exit ?_ | refine thenQ_normal ?_ | refine thenQ_exit ?_ | refine thenQ_ret ?_ | refine blockQ_normal ?_ | refine blockQ_ret ?_ | refine blockQ_same ?_ | refine blockQ_other rfl ?_)
      refine W_cond (by simp only [↓reduceIte, go_sem, Nat.reduceLT, Nat.reduceEqDiff, Nat.reduceSub]; rfl) ?_ ?_
      · intro h; simp at h
      intro _
      repeat (with_reducible first | refine W_seq ?_ | refine W_block ?_ | refine W_skip ?_ | refine W_ret ?_ | refine W_exit ?_ | refine thenQ_normal ?_ | refine thenQ_exit ?_ | refine thenQ_ret ?_ | refine blockQ_normal ?_ | refine blockQ_ret ?_ | refine blockQ_same ?_ | refine blockQ_other rfl ?_)
      refine W_reg (by rfl) ?_; intro gd K hgd hK
      have hg5 : ∀ n σ b, wantV gd n σ (some (5, b)) = boolIs (ev n σ (.tmp 70)) b := (fun n σ b => by rw [wantV_some, show gd 5 = some 70 from (by rw [hgd]; rfl)]; rfl)
      by_cases hdq : (d : Int) = q.length
      · try simp (disch := first | omega | assumption | rfl) only [↓reduceIte, go_sem, Nat.reduceLT, Nat.reduceEqDiff, Nat.reduceSub, g1, decide_eq_true hdq, ↓hg5]
        refine hK _ _ ?_; clear hK hgd; clear K; try clear gd
        repeat (with_reducible first | refine W_seq ?_ | refine W_block ?_ | refine W_skip ?_ | refine W_ret ?_ | refine W_exit ?_ | refine thenQ_normal ?_ | refine thenQ_exit ?_ | refine thenQ_ret ?_ | refine blockQ_normal ?_ | refine blockQ_ret ?_ | refine blockQ_same ?_ | refine blockQ_other rfl ?_)
        refine ret_one (by simp) rfl Try.ntmps6 (by simp only [↓reduceIte, go_sem, Nat.reduceLT, Nat.reduceEqDiff, Nat.reduceSub]; rfl) ?_
        exact ⟨rfl, hT.ext.trans hE7'⟩
      · have hix : ((q.length : Int) - d - 1).toNat = q.length - d - 1 := by omega
        try simp (disch := first | omega | assumption | rfl) only [↓reduceIte, go_sem, Nat.reduceLT, Nat.reduceEqDiff, Nat.reduceSub, g5, g1, decide_eq_false hdq, hix, ↓hg5]
        have htail := Row.tail (w := w) (l := q.map vs) (by simp) hqc (fun j hj => hqa j (by simpa using hj)) (lo := q.length - d - 1) (by omega)
        rw [← List.map_drop] at htail
        refine Fn.mono (Has_ok (n := q.drop (q.length - d - 1)) (hT.on hE7').lies hT.ok (htail.ext (hT.ext.trans hE7')) (hqb.drop _) (by simp; omega)) ?_
        rintro _ w8 ⟨rfl, hE8⟩
        have hout : ¬ foldN (q.drop (q.length - d - 1)) ∈ s.names := by
          have := sfx_out hT.ok (f := foldN q) (k := d + 1) (by omega) (by rw [foldN_len]; omega)
          unfold sfx at this
          rw [foldN_len] at this
          rw [foldN_drop, show q.length - d - 1 = q.length - (d + 1) from by omega]
          exact this
        rw [decide_eq_false hout]
        try simp (disch := first | omega | assumption | rfl) only [↓reduceIte, go_sem, Nat.reduceLT, Nat.reduceEqDiff, Nat.reduceSub, decide_eq_false hdq, ↓hg5]
        refine hK _ _ ?_; clear hK hgd; clear K; try clear gd
        repeat (with_reducible first | refine W_seq ?_ | refine W_block ?_ | refine W_skip ?_ | refine W_ret ?_ | refine W_exit ?_ | refine thenQ_normal ?_ | refine thenQ_exit ?_ | refine thenQ_ret ?_ | refine blockQ_normal ?_ | refine blockQ_ret ?_ | refine blockQ_same ?_ | refine blockQ_other rfl ?_)
        refine ret_one (by simp) rfl Try.ntmps6 (by simp only [↓reduceIte, go_sem, Nat.reduceLT, Nat.reduceEqDiff, Nat.reduceSub]; rfl) ?_
        exact ⟨rfl, hT.ext.trans (hE7'.trans hE8)⟩
end Go.Proofs.Ytciadbhnodgpgaa
