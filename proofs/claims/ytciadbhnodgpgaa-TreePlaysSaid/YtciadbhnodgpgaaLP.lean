/-
  The law TreePlays: the walk.
  Conditions: none.
-/
import Derived.Test.YtciadbhnodgpgaaLK
import Derived.Test.YtciadbhnodgpgaaTQ
set_option linter.unusedVariables false
set_option linter.unusedSimpArgs false
set_option linter.defProp false
namespace Go.Proofs.Ytciadbhnodgpgaa
open Go Go.Proofs.Ytciadbhnodgpgaa.T_int
set_option maxRecDepth 10000

theorem tplays_ok (w : World) (lv qv : Value) (N : List Nm) (q : Nm) (hl : NamesAt w lv N) (hq : Row w qv (q.map vs)) :
    Fn Try.prog 3 #[lv, qv] w (fun v w' => v = .bool true ∧ Ext w w') := by
  obtain ⟨vals, ⟨la, lc, rfl, hlc, hla⟩, hvl, hrows⟩ := hl
  have hq0 := hq
  obtain ⟨qa, qc, rfl, hqc, hqa⟩ := hq
  simp only [List.length_map] at *
  obtain ⟨Z, hZ⟩ : ∃ Z, N.zipIdx.map (fun p => (p.1, vi p.2)) = Z := ⟨_, rfl⟩
  have hZl : Z.length = vals.length := by rw [← hZ]; simp [hvl]
  have hZi : ∀ i (h : i < vals.length), Z[i]'(by omega) = (N[i]'(by omega), vi i) := fun i h => by simp [← hZ]
  obtain ⟨Q, hQ⟩ : ∃ Q, foldN q = Q := ⟨_, rfl⟩
  have hQl : Q.length = q.length := by rw [← hQ]; exact foldN_len q
  refine enter Try.func3 Try.ntmps3 rfl rfl ?_
  repeat (with_reducible first | refine W_seq ?_ | refine W_block ?_ | refine W_skip ?_ | refine W_ret ?_ | refine W_exit ?_ | refine thenQ_normal ?_ | refine thenQ_exit ?_ | refine thenQ_ret ?_ | refine blockQ_normal ?_ | refine blockQ_ret ?_ | refine blockQ_same ?_ | refine blockQ_other rfl ?_)
  refine W_reg (by rfl) ?_; intro gd K hgd hK; simp (disch := first | omega | assumption | rfl) only [↓reduceIte, go_sem, Nat.reduceLT, Nat.reduceEqDiff, Nat.reduceSub]; refine hK _ _ ?_; clear hK hgd; clear K gd
  repeat (with_reducible first | refine W_seq ?_ | refine W_block ?_ | refine W_skip ?_ | refine W_ret ?_ | refine W_exit ?_ | refine thenQ_normal ?_ | refine thenQ_exit ?_ | refine thenQ_ret ?_ | refine blockQ_normal ?_ | refine blockQ_ret ?_ | refine blockQ_same ?_ | refine blockQ_other rfl ?_)
  refine W_reg (by rfl) ?_; intro gd K hgd hK
  try simp (disch := first | omega | assumption | rfl) only [↓reduceIte, go_sem, Nat.reduceLT, Nat.reduceEqDiff, Nat.reduceSub]
  refine Fn.mono (known_ok w) ?_
  rintro _ w1 ⟨rfl, hE1⟩
  try simp (disch := first | omega | assumption | rfl) only [↓reduceIte, go_sem, Nat.reduceLT, Nat.reduceEqDiff, Nat.reduceSub]
  refine hK _ _ ?_; clear hK hgd; clear K; try clear gd
  repeat (with_reducible first | refine W_seq ?_ | refine W_block ?_ | refine W_skip ?_ | refine W_ret ?_ | refine W_exit ?_ | refine thenQ_normal ?_ | refine thenQ_exit ?_ | refine thenQ_ret ?_ | refine blockQ_normal ?_ | refine blockQ_ret ?_ | refine blockQ_same ?_ | refine blockQ_other rfl ?_)
  refine W_cond (by simp only [↓reduceIte, go_sem, Nat.reduceLT, Nat.reduceEqDiff, Nat.reduceSub]; rfl) ?_ ?_
  · intro h; simp at h
  intro _
  repeat (with_reducible first | refine W_seq ?_ | refine W_block ?_ | refine W_skip ?_ | refine W_ret ?_ | refine W_exit ?_ | refine thenQ_normal ?_ | refine thenQ_exit ?_ | refine thenQ_ret ?_ | refine blockQ_normal ?_ | refine blockQ_ret ?_ | refine blockQ_same ?_ | refine blockQ_other rfl ?_)
  refine W_mono (Q := fun e σ' ds' v' => e = .normal ∧ ds' = [] ∧ σ' 0 = .slice la vals.length lc ∧ σ' 1 = .slice qa q.length qc ∧ Ext w v' ∧ ∃ b, σ' 34 = .bool b ∧ (b = false → vals.length ≤ 30 ∧ few q = true ∧ q.length ≤ 20)) ?_ ?_
  · refine W_reg (by rfl) ?_; intro gd K hgd hK
    have hg3 : ∀ n σ b, wantV gd n σ (some (3, b)) = boolIs (ev n σ (.tmp 25)) b := (fun n σ b => by rw [wantV_some, show gd 3 = some 25 from (by rw [hgd]; rfl)]; rfl); have hg8 : ∀ n σ b, wantV gd n σ (some (8, b)) = boolIs (ev n σ (.tmp 30)) b := (fun n σ b => by rw [wantV_some, show gd 8 = some 30 from (by rw [hgd]; rfl)]; rfl)
    by_cases h30 : (30 : Int) < vals.length
    · try simp (disch := first | omega | assumption | rfl) only [↓reduceIte, go_sem, Nat.reduceLT, Nat.reduceEqDiff, Nat.reduceSub, decide_eq_true h30, ↓hg3, ↓hg8]
      refine hK _ _ ?_; clear hK hgd; clear K; try clear gd
      refine ⟨rfl, rfl, by simp only [↓reduceIte, go_sem, Nat.reduceLT, Nat.reduceEqDiff, Nat.reduceSub], by simp only [↓reduceIte, go_sem, Nat.reduceLT, Nat.reduceEqDiff, Nat.reduceSub], hE1, _, by simp only [↓reduceIte, go_sem, Nat.reduceLT, Nat.reduceEqDiff, Nat.reduceSub]; rfl, by simp⟩
    · try simp (disch := first | omega | assumption | rfl) only [↓reduceIte, go_sem, Nat.reduceLT, Nat.reduceEqDiff, Nat.reduceSub, decide_eq_false h30, ↓hg3, ↓hg8]
      refine Fn.mono (Few_ok w1 _ q (hq0.ext hE1)) ?_
      rintro _ w2 ⟨rfl, hE2⟩
      by_cases hf : few q = true
      · try simp (disch := first | omega | assumption | rfl) only [↓reduceIte, go_sem, Nat.reduceLT, Nat.reduceEqDiff, Nat.reduceSub, decide_eq_false h30, hf, ↓hg3, ↓hg8]
        refine hK _ _ ?_; clear hK hgd; clear K; try clear gd
        refine ⟨rfl, rfl, by simp only [↓reduceIte, go_sem, Nat.reduceLT, Nat.reduceEqDiff, Nat.reduceSub], by simp only [↓reduceIte, go_sem, Nat.reduceLT, Nat.reduceEqDiff, Nat.reduceSub], hE1.trans hE2, _, by simp only [↓reduceIte, go_sem, Nat.reduceLT, Nat.reduceEqDiff, Nat.reduceSub]; rfl, fun h => ⟨by omega, hf, by simp at h; omega⟩⟩
      · rw [Bool.not_eq_true] at hf
        try simp (disch := first | omega | assumption | rfl) only [↓reduceIte, go_sem, Nat.reduceLT, Nat.reduceEqDiff, Nat.reduceSub, decide_eq_false h30, hf, ↓hg3, ↓hg8]
        refine hK _ _ ?_; clear hK hgd; clear K; try clear gd
        refine ⟨rfl, rfl, by simp only [↓reduceIte, go_sem, Nat.reduceLT, Nat.reduceEqDiff, Nat.reduceSub], by simp only [↓reduceIte, go_sem, Nat.reduceLT, Nat.reduceEqDiff, Nat.reduceSub], hE1.trans hE2, _, by simp only [↓reduceIte, go_sem, Nat.reduceLT, Nat.reduceEqDiff, Nat.reduceSub]; rfl, by simp⟩
  rintro _ σ2 _ w2 ⟨rfl, rfl, e0, e1, hE2, b, e34, hb⟩
  clear hE1 w1
  repeat (with_reducible first | refine W_seq ?_ | refine W_block ?_ | refine W_skip ?_ | refine W_ret ?_ | refine W_exit ?_ | refine thenQ_normal ?_ | refine thenQ_exit ?_ | refine thenQ_ret ?_ | refine blockQ_normal ?_ | refine blockQ_ret ?_ | refine blockQ_same ?_ | refine blockQ_other rfl ?_)
  refine W_cond (by simp only [↓reduceIte, go_sem, Nat.reduceLT, Nat.reduceEqDiff, Nat.reduceSub, e34]; rfl) ?_ ?_
  · intro _
    repeat (with_reducible first | refine W_seq ?_ | refine W_block ?_ | refine W_skip ?_ | refine W_ret ?_ | refine W_exit ?_ | refine thenQ_normal ?_ | refine thenQ_exit ?_ | refine thenQ_ret ?_ | refine blockQ_normal ?_ | refine blockQ_ret ?_ | refine blockQ_same ?_ | refine blockQ_other rfl ?_)
    refine W_reg (by rfl) ?_; intro gd K hgd hK; simp (disch := first | omega | assumption | rfl) only [↓reduceIte, go_sem, Nat.reduceLT, Nat.reduceEqDiff, Nat.reduceSub]; refine hK _ _ ?_; clear hK hgd; clear K gd
    repeat (with_reducible first | refine W_seq ?_ | refine W_block ?_ | refine W_skip ?_ | refine W_ret ?_ | refine W_exit ?_ | refine thenQ_normal ?_ | refine thenQ_exit ?_ | refine thenQ_ret ?_ | refine blockQ_normal ?_ | refine blockQ_ret ?_ | refine blockQ_same ?_ | refine blockQ_other rfl ?_)
    refine ret_one (by simp) rfl Try.ntmps3 (by simp only [↓reduceIte, go_sem, Nat.reduceLT, Nat.reduceEqDiff, Nat.reduceSub]; rfl) ?_
    exact ⟨rfl, hE2⟩
  intro hbf
  obtain ⟨h30, hfew, hq20⟩ := hb hbf
  have hqb := few_lb hfew
  repeat (with_reducible first | refine W_seq ?_ | refine W_block ?_ | refine W_skip ?_ | refine W_ret ?_ | refine W_exit ?_ | refine thenQ_normal ?_ | refine thenQ_exit ?_ | refine thenQ_ret ?_ | refine blockQ_normal ?_ | refine blockQ_ret ?_ | refine blockQ_same ?_ | refine blockQ_other rfl ?_)
  refine W_reg (by rfl) ?_; intro gd K hgd hK
  try simp (disch := first | omega | assumption | rfl) only [↓reduceIte, go_sem, Nat.reduceLT, Nat.reduceEqDiff, Nat.reduceSub]
  refine Fn.mono (New_ti w w2 hE2) ?_
  rintro _ w3 ⟨hE3, tb, s0, rfl, hT0, _⟩
  try simp (disch := first | omega | assumption | rfl) only [↓reduceIte, go_sem, Nat.reduceLT, Nat.reduceEqDiff, Nat.reduceSub]
  refine hK _ _ ?_; clear hK hgd; clear K; try clear gd
  repeat (with_reducible first | refine W_seq ?_ | refine W_block ?_ | refine W_skip ?_ | refine W_ret ?_ | refine W_exit ?_ | refine thenQ_normal ?_ | refine thenQ_exit ?_ | refine thenQ_ret ?_ | refine blockQ_normal ?_ | refine blockQ_ret ?_ | refine blockQ_same ?_ | refine blockQ_other rfl ?_)
  refine W_reg (by rfl) ?_; intro gd K hgd hK
  try simp (disch := first | omega | assumption | rfl) only [↓reduceIte, go_sem, Nat.reduceLT, Nat.reduceEqDiff, Nat.reduceSub]
  refine bs_one (z := .slice Option.none 0 0) rfl rfl rfl rfl rfl ?_
  intro w4 hE4 hs4 ho4
  try simp (disch := first | omega | assumption | rfl) only [↓reduceIte, go_sem, Nat.reduceLT, Nat.reduceEqDiff, Nat.reduceSub]
  refine hK _ _ ?_; clear hK hgd; clear K; try clear gd
  have hlt0 := hT0.lt
  replace hT0 := hT0.on hE4
  have hN0 : NamesZ (tblk tb s0) w4 (.slice (some ⟨w3.heap.size, 0, Option.none⟩) 1 1) [[]] :=
    ⟨_, RowZ.own ho4 (fun b hb => hlt0 b hb), rfl, fun i h1 h2 => by
      have : i = 0 := by simp at h1; omega
      subst this
      exact ⟨⟨Option.none, 0, rfl, Nat.le_refl _, fun j h => by simp at h⟩, fun a n c hv => by cases hv⟩⟩
  have hM0 : ∀ g, g ∈ ([[]] : List Nm) ↔ g ∈ s0.names := fun g => by rw [hT0.hist.names]; simp
  repeat (with_reducible first | refine W_seq ?_ | refine W_block ?_ | refine W_skip ?_ | refine W_ret ?_ | refine W_exit ?_ | refine thenQ_normal ?_ | refine thenQ_exit ?_ | refine thenQ_ret ?_ | refine blockQ_normal ?_ | refine blockQ_ret ?_ | refine blockQ_same ?_ | refine blockQ_other rfl ?_)
  refine W_reg (by rfl) ?_; intro gd K hgd hK; simp (disch := first | omega | assumption | rfl) only [↓reduceIte, go_sem, Nat.reduceLT, Nat.reduceEqDiff, Nat.reduceSub]; refine hK _ _ ?_; clear hK hgd; clear K gd
  repeat (with_reducible first | refine W_seq ?_ | refine W_block ?_ | refine W_skip ?_ | refine W_ret ?_ | refine W_exit ?_ | refine thenQ_normal ?_ | refine thenQ_exit ?_ | refine thenQ_ret ?_ | refine blockQ_normal ?_ | refine blockQ_ret ?_ | refine blockQ_same ?_ | refine blockQ_other rfl ?_)
  refine W_loop (fun m σ ds A => ds = [] ∧ ∃ (i : Nat) (s : TS) (av : Value) (L : List Nm), i + m = vals.length ∧ σ 7 = vi i ∧ σ 0 = .slice la vals.length lc ∧ σ 1 = .slice qa q.length qc ∧ σ 5 = ptrOf tb ∧ σ 6 = av ∧ TI w A tb s (Z.take i) ∧ shorts 20 (Z.take i) ∧
    NamesZ (tblk tb s) A av L ∧ Rise L ∧ (∀ g, g ∈ L ↔ g ∈ s.names) ∧ L.length ≤ 1 + i * 21) vals.length ?_ ?_
  · refine ⟨rfl, 0, s0, _, [[]], by omega, ?_, ?_, ?_, ?_, ?_, hT0, fun p h => (by cases h), hN0, List.pairwise_singleton _ _, hM0, by simp⟩
    · simp only [↓reduceIte, go_sem, Nat.reduceLT, Nat.reduceEqDiff, Nat.reduceSub]; rfl
    · simp only [↓reduceIte, go_sem, Nat.reduceLT, Nat.reduceEqDiff, Nat.reduceSub, e0]
    · simp only [↓reduceIte, go_sem, Nat.reduceLT, Nat.reduceEqDiff, Nat.reduceSub, e1]
    · simp only [↓reduceIte, go_sem, Nat.reduceLT, Nat.reduceEqDiff, Nat.reduceSub]
    · simp only [↓reduceIte, go_sem, Nat.reduceLT, Nat.reduceEqDiff, Nat.reduceSub]
  · rintro m σ ds A ⟨rfl, i, s, av, L, him, h7, h0, h1, h5, h6, hT, hsh, hN, hR, hM, hLl⟩
    repeat (with_reducible first | refine W_seq ?_ | refine W_block ?_ | refine W_skip ?_ | refine W_ret ?_ | refine W_exit ?_ | refine thenQ_normal ?_ | refine thenQ_exit ?_ | refine thenQ_ret ?_ | refine blockQ_normal ?_ | refine blockQ_ret ?_ | refine blockQ_same ?_ | refine blockQ_other rfl ?_)
    refine W_reg (by rfl) ?_; intro gd K hgd hK; simp (disch := first | omega | assumption | rfl) only [↓reduceIte, go_sem, Nat.reduceLT, Nat.reduceEqDiff, Nat.reduceSub, h7, h0]; refine hK _ _ ?_; clear hK hgd; clear K gd
    repeat (with_reducible first | refine W_seq ?_ | refine W_block ?_ | refine W_skip ?_ | refine W_ret ?_ | refine W_exit ?_ | refine thenQ_normal ?_ | refine thenQ_exit ?_ | refine thenQ_ret ?_ | refine blockQ_normal ?_ | refine blockQ_ret ?_ | refine blockQ_same ?_ | refine blockQ_other rfl ?_)
    refine W_cond (by simp only [↓reduceIte, go_sem, Nat.reduceLT, Nat.reduceEqDiff, Nat.reduceSub]; rfl) ?_ ?_
    · intro hlt
      simp only [decide_eq_true_eq] at hlt
      have hla' := fun j h => cellO_ext hT.ext (hla j h)
      have hsa : la.isSome = true := some_of_cellO (hla i (by omega))
      have hri := hrows i (by omega) (by omega)
      obtain ⟨ia, ic, hiv, _, _⟩ := id hri
      obtain ⟨g, hg⟩ : ∃ g, N[i]'(by omega) = g := ⟨_, rfl⟩
      rw [hg] at hri hiv
      simp only [List.length_map] at hiv
      rw [hiv] at hri
      repeat (with_reducible first | refine W_seq ?_ | refine W_block ?_ | refine W_skip ?_ | refine W_ret ?_ | refine W_exit ?_ | refine thenQ_normal ?_ | refine thenQ_exit ?_ | refine thenQ_ret ?_ | refine blockQ_normal ?_ | refine blockQ_ret ?_ | refine blockQ_same ?_ | refine blockQ_other rfl ?_)
      refine W_mono (Q := fun e σ' ds' v' => e = .normal ∧ ds' = [] ∧ σ' 0 = σ 0 ∧ σ' 1 = σ 1 ∧ σ' 5 = σ 5 ∧ σ' 6 = σ 6 ∧ σ' 7 = σ 7 ∧ Ext A v' ∧ ∃ b, σ' 56 = .bool b ∧ (b = false → few g = true ∧ g.length ≤ 20)) ?_ ?_
      · refine W_reg (by rfl) ?_; intro gd K hgd hK
        have hg6 : ∀ n σ b, wantV gd n σ (some (6, b)) = boolIs (ev n σ (.tmp 49)) b := (fun n σ b => by rw [wantV_some, show gd 6 = some 49 from (by rw [hgd]; rfl)]; rfl)
        try simp (disch := first | omega | assumption | rfl) only [↓reduceIte, go_sem, Nat.reduceLT, Nat.reduceEqDiff, Nat.reduceSub, h7, h0, hla', hiv]
        refine Fn.mono (Few_ok A _ g (hri.ext hT.ext)) ?_
        rintro _ w2 ⟨rfl, hE2⟩
        have hla2 := fun j h => cellO_ext hE2 (hla' j h)
        by_cases hfg : few g = true
        · try simp (disch := first | omega | assumption | rfl) only [↓reduceIte, go_sem, Nat.reduceLT, Nat.reduceEqDiff, Nat.reduceSub, h7, h0, hla2, hiv, hfg, ↓hg6]
          refine hK _ _ ?_; clear hK hgd; clear K; try clear gd
          refine ⟨rfl, rfl, by simp only [↓reduceIte, go_sem, Nat.reduceLT, Nat.reduceEqDiff, Nat.reduceSub], by simp only [↓reduceIte, go_sem, Nat.reduceLT, Nat.reduceEqDiff, Nat.reduceSub], by simp only [↓reduceIte, go_sem, Nat.reduceLT, Nat.reduceEqDiff, Nat.reduceSub], by simp only [↓reduceIte, go_sem, Nat.reduceLT, Nat.reduceEqDiff, Nat.reduceSub], by simp only [↓reduceIte, go_sem, Nat.reduceLT, Nat.reduceEqDiff, Nat.reduceSub, h7], hE2, _, by simp only [↓reduceIte, go_sem, Nat.reduceLT, Nat.reduceEqDiff, Nat.reduceSub]; rfl, fun h => ⟨hfg, by simp at h; omega⟩⟩
        · rw [Bool.not_eq_true] at hfg
          try simp (disch := first | omega | assumption | rfl) only [↓reduceIte, go_sem, Nat.reduceLT, Nat.reduceEqDiff, Nat.reduceSub, hfg, ↓hg6]
          refine hK _ _ ?_; clear hK hgd; clear K; try clear gd
          refine ⟨rfl, rfl, by simp only [↓reduceIte, go_sem, Nat.reduceLT, Nat.reduceEqDiff, Nat.reduceSub], by simp only [↓reduceIte, go_sem, Nat.reduceLT, Nat.reduceEqDiff, Nat.reduceSub], by simp only [↓reduceIte, go_sem, Nat.reduceLT, Nat.reduceEqDiff, Nat.reduceSub], by simp only [↓reduceIte, go_sem, Nat.reduceLT, Nat.reduceEqDiff, Nat.reduceSub], by simp only [↓reduceIte, go_sem, Nat.reduceLT, Nat.reduceEqDiff, Nat.reduceSub, h7], hE2, _, by simp only [↓reduceIte, go_sem, Nat.reduceLT, Nat.reduceEqDiff, Nat.reduceSub]; rfl, fun h => by simp at h⟩
      · rintro _ σ9 _ w9 ⟨rfl, rfl, f0, f1, f5, f6, f7, hE9, b, f56, hbg⟩
        repeat (with_reducible first | refine W_seq ?_ | refine W_block ?_ | refine W_skip ?_ | refine W_ret ?_ | refine W_exit ?_ | refine thenQ_normal ?_ | refine thenQ_exit ?_ | refine thenQ_ret ?_ | refine blockQ_normal ?_ | refine blockQ_ret ?_ | refine blockQ_same ?_ | refine blockQ_other rfl ?_)
        refine W_cond (by simp only [↓reduceIte, go_sem, Nat.reduceLT, Nat.reduceEqDiff, Nat.reduceSub, f56]; rfl) ?_ ?_
        · intro _
          repeat (with_reducible first | refine W_seq ?_ | refine W_block ?_ | refine W_skip ?_ | refine W_ret ?_ | refine W_exit ?_ | refine thenQ_normal ?_ | refine thenQ_exit ?_ | refine thenQ_ret ?_ | refine blockQ_normal ?_ | refine blockQ_ret ?_ | refine blockQ_same ?_ | refine blockQ_other rfl ?_)
          refine W_reg (by rfl) ?_; intro gd K hgd hK; simp (disch := first | omega | assumption | rfl) only [↓reduceIte, go_sem, Nat.reduceLT, Nat.reduceEqDiff, Nat.reduceSub]; refine hK _ _ ?_; clear hK hgd; clear K gd
          repeat (with_reducible first | refine W_seq ?_ | refine W_block ?_ | refine W_skip ?_ | refine W_ret ?_ | refine W_exit ?_ | refine thenQ_normal ?_ | refine thenQ_exit ?_ | refine thenQ_ret ?_ | refine blockQ_normal ?_ | refine blockQ_ret ?_ | refine blockQ_same ?_ | refine blockQ_other rfl ?_)
          refine ret_one (by simp) rfl Try.ntmps3 (by simp only [↓reduceIte, go_sem, Nat.reduceLT, Nat.reduceEqDiff, Nat.reduceSub]; rfl) ?_
          exact ⟨rfl, hT.ext.trans hE9⟩
        · intro hbf
          obtain ⟨hgf, hgl⟩ := hbg hbf
          have hT9 := hT.on hE9
          have hN9 := hN.ext hE9
          have hla9 := fun j h => cellO_ext hT9.ext (hla j h)
          rw [h0] at f0; rw [h1] at f1; rw [h5] at f5; rw [h6] at f6; rw [h7] at f7
          repeat (with_reducible first | refine W_seq ?_ | refine W_block ?_ | refine W_skip ?_ | refine W_ret ?_ | refine W_exit ?_ | refine thenQ_normal ?_ | refine thenQ_exit ?_ | refine thenQ_ret ?_ | refine blockQ_normal ?_ | refine blockQ_ret ?_ | refine blockQ_same ?_ | refine blockQ_other rfl ?_)
          refine W_reg (by rfl) ?_; intro gd K hgd hK
          try simp (disch := first | omega | assumption | rfl) only [↓reduceIte, go_sem, Nat.reduceLT, Nat.reduceEqDiff, Nat.reduceSub, f7, f0, f5, hla9, hiv]
          refine Fn.mono (Put_ti (n := g) (v := vi i) hT9 (hT9.still hri) (few_lb hgf) (by omega) rfl) ?_
          rintro _ w10 ⟨s', hT', hk', hb'⟩
          try simp (disch := first | omega | assumption | rfl) only [↓reduceIte, go_sem, Nat.reduceLT, Nat.reduceEqDiff, Nat.reduceSub]
          refine hK _ _ ?_; clear hK hgd; clear K; try clear gd
          have hN10 : NamesZ (tblk tb s') w10 av L := hN9.turn hk' hb'
          have hla10 := fun j h => cellO_ext hT'.ext (hla j h)
          have hdeep := hT.hist.deep hsh
          repeat (with_reducible first | refine W_seq ?_ | refine W_block ?_ | refine W_skip ?_ | refine W_ret ?_ | refine W_exit ?_ | refine thenQ_normal ?_ | refine thenQ_exit ?_ | refine thenQ_ret ?_ | refine blockQ_normal ?_ | refine blockQ_ret ?_ | refine blockQ_same ?_ | refine blockQ_other rfl ?_)
          refine W_reg (by rfl) ?_; intro gd K hgd hK
          try simp (disch := first | omega | assumption | rfl) only [↓reduceIte, go_sem, Nat.reduceLT, Nat.reduceEqDiff, Nat.reduceSub, f7, f0, f6, hla10, hiv]
          refine Fn.mono (RAdd_ok w10 _ _ L g hN10 (fun b hb => hT'.lt b hb) (hri.ext hT'.ext) (fun x hx => (hdeep x ((hM x).1 hx)).2.2) (fun x hx => ⟨(hdeep x ((hM x).1 hx)).2.1, by have := (hdeep x ((hM x).1 hx)).1; omega⟩) (few_lb hgf) (by omega)
            (by omega) hR (fun l f h => (hM _).2 (hT.ok.tail l f ((hM _).1 h)))) ?_
          rintro av' w11 ⟨hE11, L', hN', hR', hM', hL'⟩
          try simp (disch := first | omega | assumption | rfl) only [↓reduceIte, go_sem, Nat.reduceLT, Nat.reduceEqDiff, Nat.reduceSub]
          refine hK _ _ ?_; clear hK hgd; clear K; try clear gd
          have hstep : Z.take (i + 1) = Z.take i ++ [(g, vi i)] := by
            rw [take_succ' (by omega), hZi i (by omega), hg]
          repeat (with_reducible first | refine W_seq ?_ | refine W_block ?_ | refine W_skip ?_ | refine W_ret ?_ | refine W_exit ?_ | refine thenQ_normal ?_ | refine thenQ_exit ?_ | refine thenQ_ret ?_ | refine blockQ_normal ?_ | refine blockQ_ret ?_ | refine blockQ_same ?_ | refine blockQ_other rfl ?_)
          refine W_reg (by rfl) ?_; intro gd K hgd hK; simp (disch := first | omega | assumption | rfl) only [↓reduceIte, go_sem, Nat.reduceLT, Nat.reduceEqDiff, Nat.reduceSub, f7]; refine hK _ _ ?_; clear hK hgd; clear K gd
          repeat (with_reducible first | refine W_seq ?_ | refine W_block ?_ | refine W_skip ?_ | refine W_ret ?_ | refine W_exit ?_ | refine thenQ_normal ?_ | refine thenQ_exit ?_ | refine thenQ_ret ?_ | refine blockQ_normal ?_ | refine blockQ_ret ?_ | refine blockQ_same ?_ | refine blockQ_other rfl ?_)
          refine ⟨m - 1, by omega, rfl, i + 1, s', av', L', by omega, by simp only [↓reduceIte, go_sem, Nat.reduceLT, Nat.reduceEqDiff, Nat.reduceSub]; push_cast; rfl, by simp only [↓reduceIte, go_sem, Nat.reduceLT, Nat.reduceEqDiff, Nat.reduceSub, f0], by simp only [↓reduceIte, go_sem, Nat.reduceLT, Nat.reduceEqDiff, Nat.reduceSub, f1], by simp only [↓reduceIte, go_sem, Nat.reduceLT, Nat.reduceEqDiff, Nat.reduceSub, f5], by simp only [↓reduceIte, go_sem, Nat.reduceLT, Nat.reduceEqDiff, Nat.reduceSub], by rw [hstep]; exact hT'.on hE11, fun p hp => ?_, hN', hR', fun x => ?_, by omega⟩
          · rw [hstep] at hp
            rcases List.mem_append.1 hp with hp | hp
            · exact hsh p hp
            · rw [List.mem_singleton.1 hp]; exact ⟨few_lb hgf, hgl⟩
          · rw [hM', hM, hT.hist.names, hT'.hist.names]
            constructor
            · rintro ((h | ⟨p, hp, hs⟩) | ⟨k, hk, h⟩)
              · exact .inl h
              · exact .inr ⟨p, List.mem_append_left _ hp, hs⟩
              · exact .inr ⟨(g, vi i), by simp, by rw [h]; exact List.drop_suffix _ _⟩
            · rintro (h | ⟨p, hp, hs⟩)
              · exact .inl (.inl h)
              · rcases List.mem_append.1 hp with hp | hp
                · exact .inl (.inr ⟨p, hp, hs⟩)
                · rw [List.mem_singleton.1 hp] at hs
                  obtain ⟨_, e⟩ := suffix_drop.1 hs
                  exact .inr ⟨_, by rw [foldN_len]; exact Nat.sub_le _ _, e.symm⟩
    · intro hge
      simp only [decide_eq_false_iff_not] at hge
      rw [List.take_of_length_le (by omega)] at hT hsh
      have hZlen : Z.length ≤ 1000 := by omega
      have hNok : ∀ k (h : k < N.length), LB N[k] ∧ N[k].length ≤ 20 := fun k h => by
        have := hsh (Z[k]'(by omega)) (List.getElem_mem _)
        rw [hZi k (by omega)] at this
        exact this
      obtain ⟨ws, ⟨⟨ya, yc, rfl, hyc, hya⟩, _⟩, hyl, hyr0⟩ := hN
      have hyr : ∀ k (h : k < ws.length) (h' : k < L.length), Row A ws[k] (L[k].map vs) := fun k h h' => (hyr0 k h h').1
      have hdeep := hT.hist.deep hsh
      have hLdeep : ∀ k (h : k < L.length), L[k].length ≤ 20 ∧ LB L[k] ∧ foldN L[k] = L[k] := fun k h => hdeep _ ((hM _).1 (List.getElem_mem _))
      clear hT0 hE3 hE2 hE4 ho4 hN0 hM0 hlt0 e0 e1 e34
      repeat (with_reducible first | refine W_seq ?_ | refine W_block ?_ | refine W_skip ?_ | refine W_ret ?_ | refine W_exit ?_ | refine thenQ_normal ?_ | refine thenQ_exit ?_ | refine thenQ_ret ?_ | refine blockQ_normal ?_ | refine blockQ_ret ?_ | refine blockQ_same ?_ | refine blockQ_other rfl ?_)
      refine W_reg (by rfl) ?_; intro gd K hgd hK
      try simp (disch := first | omega | assumption | rfl) only [↓reduceIte, go_sem, Nat.reduceLT, Nat.reduceEqDiff, Nat.reduceSub, h5]
      refine Fn.mono (Names_ti hT hsh (by decide) hZlen) ?_
      rintro nv w5 ⟨hE5, La, hNa, hRa, hMa, hLal⟩
      try simp (disch := first | omega | assumption | rfl) only [↓reduceIte, go_sem, Nat.reduceLT, Nat.reduceEqDiff, Nat.reduceSub]
      refine hK _ _ ?_; clear hK hgd; clear K; try clear gd
      have hLL : La = L := hRa.eq hR (fun g => by rw [hMa, hM])
      subst hLL
      obtain ⟨xs, ⟨xa, xc, rfl, hxc, hxa⟩, hxl, hxr⟩ := hNa
      have hxy : xs.length = ws.length := by omega
      have hlens := hT.lens hsh (by decide) hZlen
      have hwr : IntKind.i64.wrap (s.names.length : Int) = (ws.length : Int) := by
        rw [wrap64 (by omega) (by omega)]; omega
      repeat (with_reducible first | refine W_seq ?_ | refine W_block ?_ | refine W_skip ?_ | refine W_ret ?_ | refine W_exit ?_ | refine thenQ_normal ?_ | refine thenQ_exit ?_ | refine thenQ_ret ?_ | refine blockQ_normal ?_ | refine blockQ_ret ?_ | refine blockQ_same ?_ | refine blockQ_other rfl ?_)
      refine W_reg (by rfl) ?_; intro gd K hgd hK
      have hg5 : ∀ n σ b, wantV gd n σ (some (5, b)) = boolIs (ev n σ (.tmp 77)) b := (fun n σ b => by rw [wantV_some, show gd 5 = some 77 from (by rw [hgd]; rfl)]; rfl)
      try simp (disch := first | omega | assumption | rfl) only [↓reduceIte, go_sem, Nat.reduceLT, Nat.reduceEqDiff, Nat.reduceSub, hxy, h5, h6, decide_true, ↓hg5]
      refine Fn.mono (Len_ok (hT.on hE5).lies) ?_
      rintro _ w6 ⟨rfl, hE6⟩
      rw [hwr]
      try simp (disch := first | omega | assumption | rfl) only [↓reduceIte, go_sem, Nat.reduceLT, Nat.reduceEqDiff, Nat.reduceSub, h6, decide_true, ↓hg5]
      refine hK _ _ ?_; clear hK hgd; clear K; try clear gd
      have hE6' := hE5.trans hE6
      have hysl : ws.length ≤ 1002001 := by omega
      repeat (with_reducible first | refine W_seq ?_ | refine W_block ?_ | refine W_skip ?_ | refine W_ret ?_ | refine W_exit ?_ | refine thenQ_normal ?_ | refine thenQ_exit ?_ | refine thenQ_ret ?_ | refine blockQ_normal ?_ | refine blockQ_ret ?_ | refine blockQ_same ?_ | refine blockQ_other rfl ?_)
      refine W_cond (by simp only [↓reduceIte, go_sem, Nat.reduceLT, Nat.reduceEqDiff, Nat.reduceSub]; rfl) ?_ ?_
      · intro h; simp at h
      intro _
      repeat (with_reducible first | refine W_seq ?_ | refine W_block ?_ | refine W_skip ?_ | refine W_ret ?_ | refine W_exit ?_ | refine thenQ_normal ?_ | refine thenQ_exit ?_ | refine thenQ_ret ?_ | refine blockQ_normal ?_ | refine blockQ_ret ?_ | refine blockQ_same ?_ | refine blockQ_other rfl ?_)
      refine W_reg (by rfl) ?_; intro gd K hgd hK; simp (disch := first | omega | assumption | rfl) only [↓reduceIte, go_sem, Nat.reduceLT, Nat.reduceEqDiff, Nat.reduceSub]; refine hK _ _ ?_; clear hK hgd; clear K gd
      repeat (with_reducible first | refine W_seq ?_ | refine W_block ?_ | refine W_skip ?_ | refine W_ret ?_ | refine W_exit ?_ | refine thenQ_normal ?_ | refine thenQ_exit ?_ | refine thenQ_ret ?_ | refine blockQ_normal ?_ | refine blockQ_ret ?_ | refine blockQ_same ?_ | refine blockQ_other rfl ?_)
      refine W_loop (fun m σ ds B => ds = [] ∧ ∃ (k : Nat), k + m = ws.length ∧ σ 9 = vi k ∧ σ 8 = .slice xa ws.length xc ∧ σ 6 = .slice ya ws.length yc ∧ σ 0 = .slice la vals.length lc ∧ σ 1 = .slice qa q.length qc ∧ σ 5 = ptrOf tb ∧ Ext w6 B) ws.length ?_ ?_
      · refine ⟨rfl, 0, by omega, ?_, ?_, ?_, ?_, ?_, ?_, Keep.refl _ _⟩
        · simp only [↓reduceIte, go_sem, Nat.reduceLT, Nat.reduceEqDiff, Nat.reduceSub]; rfl
        · simp only [↓reduceIte, go_sem, Nat.reduceLT, Nat.reduceEqDiff, Nat.reduceSub, hxy]
        · simp only [↓reduceIte, go_sem, Nat.reduceLT, Nat.reduceEqDiff, Nat.reduceSub, h6]
        · simp only [↓reduceIte, go_sem, Nat.reduceLT, Nat.reduceEqDiff, Nat.reduceSub, h0]
        · simp only [↓reduceIte, go_sem, Nat.reduceLT, Nat.reduceEqDiff, Nat.reduceSub, h1]
        · simp only [↓reduceIte, go_sem, Nat.reduceLT, Nat.reduceEqDiff, Nat.reduceSub, h5]
      clear h0 h1 h5 h6 h7
      rintro m2 σ ds B ⟨rfl, k, hkm, h9, h8, h6, h0, h1, h5, hEB⟩
      have hEAB := hE6'.trans hEB
      have hTB := hT.on hEAB
      repeat (with_reducible first | refine W_seq ?_ | refine W_block ?_ | refine W_skip ?_ | refine W_ret ?_ | refine W_exit ?_ | refine thenQ_normal ?_ | refine thenQ_exit ?_ | refine thenQ_ret ?_ | refine blockQ_normal ?_ | refine blockQ_ret ?_ | refine blockQ_same ?_ | refine blockQ_other rfl ?_)
      refine W_reg (by rfl) ?_; intro gd K hgd hK; simp (disch := first | omega | assumption | rfl) only [↓reduceIte, go_sem, Nat.reduceLT, Nat.reduceEqDiff, Nat.reduceSub, h9, h8]; refine hK _ _ ?_; clear hK hgd; clear K gd
      repeat (with_reducible first | refine W_seq ?_ | refine W_block ?_ | refine W_skip ?_ | refine W_ret ?_ | refine W_exit ?_ | refine thenQ_normal ?_ | refine thenQ_exit ?_ | refine thenQ_ret ?_ | refine blockQ_normal ?_ | refine blockQ_ret ?_ | refine blockQ_same ?_ | refine blockQ_other rfl ?_)
      refine W_cond (by simp only [↓reduceIte, go_sem, Nat.reduceLT, Nat.reduceEqDiff, Nat.reduceSub]; rfl) ?_ ?_
      · intro hlt
        simp only [decide_eq_true_eq] at hlt
        have hxsa : xa.isSome = true := some_of_cellO (hxa k (by omega))
        have hysa : ya.isSome = true := some_of_cellO (hya k (by omega))
        have hxk := hxr k (by omega) (by omega)
        have hyk := hyr k (by omega) (by omega)
        obtain ⟨g, hg⟩ : ∃ g, La[k]'(by omega) = g := ⟨_, rfl⟩
        rw [hg] at hxk hyk
        have hgin : g ∈ s.names := (hM g).1 (by rw [← hg]; exact List.getElem_mem _)
        obtain ⟨hgl, hgb, hgf⟩ := hdeep g hgin
        obtain ⟨ka, kc, hkv, _, _⟩ := id hxk
        obtain ⟨ma, mc, hmv, _, _⟩ := id hyk
        simp only [List.length_map] at hkv hmv
        rw [hkv] at hxk
        rw [hmv] at hyk
        repeat (with_reducible first | refine W_seq ?_ | refine W_block ?_ | refine W_skip ?_ | refine W_ret ?_ | refine W_exit ?_ | refine thenQ_normal ?_ | refine thenQ_exit ?_ | refine thenQ_ret ?_ | refine blockQ_normal ?_ | refine blockQ_ret ?_ | refine blockQ_same ?_ | refine blockQ_other rfl ?_)
        refine W_drw (fun _ => false) [(0, true), (1, true), (2, true), (3, true), (4, true), (5, true), (6, true), (7, true), (8, false), (9, true), (10, true), (11, true), (12, true), (13, true), (14, true), (15, true), (16, false), (17, true), (18, true)] NoS mixed (by kernel_rfl) ?_; intro gd K x hgd hx hxe hK; clear hxe
        have hg10 : ∀ n σ b, wantV gd n σ (some (10, b)) = boolIs (ev n σ (.tmp 100)) b := (fun n σ b => by rw [wantV_some, show gd 10 = some 100 from (by rw [hgd]; rfl)]; rfl)
        have hE5x := (hE6.trans hEB).trans hx
        have hEAx := hEAB.trans hx
        have hxax := fun j h => cellO_ext hE5x (hxa j h)
        have hyax := fun j h => cellO_ext hEAx (hya j h)
        simp (disch := first | omega | assumption | rfl) only [↓reduceIte, go_sem, Nat.reduceLT, Nat.reduceEqDiff, Nat.reduceSub, h9, h8, h6, hxax, hyax, hkv, hmv]
        refine Fn.mono (RSame_ok x _ _ g g (hxk.ext hE5x) (hyk.ext hEAx) hgb hgb (by omega) (by omega)) ?_
        rintro _ w10 ⟨rfl, hE10⟩
        refine ⟨.inr hE10.keep, ?_⟩
        have hE5y := hE5x.trans hE10
        have hxay := fun j h => cellO_ext hE5y (hxa j h)
        simp (disch := first | omega | assumption | rfl) only [↓reduceIte, go_sem, Nat.reduceLT, Nat.reduceEqDiff, Nat.reduceSub, decide_true, h9, h8, h5, hxay, hkv, ↓hg10]
        refine Fn.mono (Has_ok (n := g) (hT.on (hEAx.trans hE10)).lies hT.ok (hxk.ext hE5y) hgb (by omega)) ?_
        rw [hgf, decide_eq_true hgin]
        rintro _ w11 ⟨rfl, hE11⟩
        refine ⟨.inr hE11.keep, ?_⟩
        simp (disch := first | omega | assumption | rfl) only [↓reduceIte, go_sem, Nat.reduceLT, Nat.reduceEqDiff, Nat.reduceSub, decide_true, ↓hg10]
        refine hK _ _ ?_; clear hK hgd; clear K; try clear gd
        repeat (with_reducible first | refine W_seq ?_ | refine W_block ?_ | refine W_skip ?_ | refine W_ret ?_ | refine W_exit ?_ | refine thenQ_normal ?_ | refine thenQ_exit ?_ | refine thenQ_ret ?_ | refine blockQ_normal ?_ | refine blockQ_ret ?_ | refine blockQ_same ?_ | refine blockQ_other rfl ?_)
        refine W_cond (by simp only [↓reduceIte, go_sem, Nat.reduceLT, Nat.reduceEqDiff, Nat.reduceSub]; rfl) ?_ ?_
        · intro h; simp at h
        intro _
        repeat (with_reducible first | refine W_seq ?_ | refine W_block ?_ | refine W_skip ?_ | refine W_ret ?_ | refine W_exit ?_ | refine thenQ_normal ?_ | refine thenQ_exit ?_ | refine thenQ_ret ?_ | refine blockQ_normal ?_ | refine blockQ_ret ?_ | refine blockQ_same ?_ | refine blockQ_other rfl ?_)
        refine W_reg (by rfl) ?_; intro gd K hgd hK; simp (disch := first | omega | assumption | rfl) only [↓reduceIte, go_sem, Nat.reduceLT, Nat.reduceEqDiff, Nat.reduceSub, h9]; refine hK _ _ ?_; clear hK hgd; clear K gd
        repeat (with_reducible first | refine W_seq ?_ | refine W_block ?_ | refine W_skip ?_ | refine W_ret ?_ | refine W_exit ?_ | refine thenQ_normal ?_ | refine thenQ_exit ?_ | refine thenQ_ret ?_ | refine blockQ_normal ?_ | refine blockQ_ret ?_ | refine blockQ_same ?_ | refine blockQ_other rfl ?_)
        exact ⟨m2 - 1, by omega, rfl, k + 1, by omega, by simp only [↓reduceIte, go_sem, Nat.reduceLT, Nat.reduceEqDiff, Nat.reduceSub]; push_cast; rfl, by simp only [↓reduceIte, go_sem, Nat.reduceLT, Nat.reduceEqDiff, Nat.reduceSub, h8], by simp only [↓reduceIte, go_sem, Nat.reduceLT, Nat.reduceEqDiff, Nat.reduceSub, h6], by simp only [↓reduceIte, go_sem, Nat.reduceLT, Nat.reduceEqDiff, Nat.reduceSub, h0], by simp only [↓reduceIte, go_sem, Nat.reduceLT, Nat.reduceEqDiff, Nat.reduceSub, h1], by simp only [↓reduceIte, go_sem, Nat.reduceLT, Nat.reduceEqDiff, Nat.reduceSub, h5], ((hEB.trans hx).trans hE10).trans hE11⟩
      intro hge2
      clear h8 h9 hge2 hkm
      have hwB := hTB.ext
      repeat (with_reducible first | refine W_seq ?_ | refine W_block ?_ | refine W_skip ?_ | refine W_ret ?_ | refine W_exit ?_ | refine thenQ_normal ?_ | refine thenQ_exit ?_ | refine thenQ_ret ?_ | refine blockQ_normal ?_ | refine blockQ_ret ?_ | refine blockQ_same ?_ | refine blockQ_other rfl ?_)
      refine W_reg (by rfl) ?_; intro gd K hgd hK; simp (disch := first | omega | assumption | rfl) only [↓reduceIte, go_sem, Nat.reduceLT, Nat.reduceEqDiff, Nat.reduceSub]; refine hK _ _ ?_; clear hK hgd; clear K gd
      repeat (with_reducible first | refine W_seq ?_ | refine W_block ?_ | refine W_skip ?_ | refine W_ret ?_ | refine W_exit ?_ | refine thenQ_normal ?_ | refine thenQ_exit ?_ | refine thenQ_ret ?_ | refine blockQ_normal ?_ | refine blockQ_ret ?_ | refine blockQ_same ?_ | refine blockQ_other rfl ?_)
      refine W_reg (by rfl) ?_; intro gd K hgd hK; simp (disch := first | omega | assumption | rfl) only [↓reduceIte, go_sem, Nat.reduceLT, Nat.reduceEqDiff, Nat.reduceSub]; refine hK _ _ ?_; clear hK hgd; clear K gd
      repeat (with_reducible first | refine W_seq ?_ | refine W_block ?_ | refine W_skip ?_ | refine W_ret ?_ | refine W_exit ?_ | refine thenQ_normal ?_ | refine thenQ_exit ?_ | refine thenQ_ret ?_ | refine blockQ_normal ?_ | refine blockQ_ret ?_ | refine blockQ_same ?_ | refine blockQ_other rfl ?_)
      refine W_loop (fun m σ ds C => ds = [] ∧ ∃ (k : Nat) (want : Int), k + m = vals.length ∧ σ 11 = vi k ∧ σ 10 = vi want ∧ σ 6 = .slice ya ws.length yc ∧ σ 0 = .slice la vals.length lc ∧ σ 1 = .slice qa q.length qc ∧ σ 5 = ptrOf tb ∧ Ext B C ∧
        ((want = -1 ∧ lastOf (Z.take k) Q = Option.none) ∨ ∃ j : Nat, want = j ∧ lastOf (Z.take k) Q = some (vi j))) vals.length ?_ ?_
      · refine ⟨rfl, 0, -1, by omega, ?_, ?_, ?_, ?_, ?_, ?_, Keep.refl _ _, .inl ⟨rfl, rfl⟩⟩
        · simp only [↓reduceIte, go_sem, Nat.reduceLT, Nat.reduceEqDiff, Nat.reduceSub]; rfl
        · simp only [↓reduceIte, go_sem, Nat.reduceLT, Nat.reduceEqDiff, Nat.reduceSub]
        · simp only [↓reduceIte, go_sem, Nat.reduceLT, Nat.reduceEqDiff, Nat.reduceSub, h6]
        · simp only [↓reduceIte, go_sem, Nat.reduceLT, Nat.reduceEqDiff, Nat.reduceSub, h0]
        · simp only [↓reduceIte, go_sem, Nat.reduceLT, Nat.reduceEqDiff, Nat.reduceSub, h1]
        · simp only [↓reduceIte, go_sem, Nat.reduceLT, Nat.reduceEqDiff, Nat.reduceSub, h5]
      clear h0 h1 h5 h6
      rintro m3 σ ds C ⟨rfl, k, want, hkm, h11, h10, h6, h0, h1, h5, hEC, hw⟩
      have hwC := hwB.trans hEC
      repeat (with_reducible first | refine W_seq ?_ | refine W_block ?_ | refine W_skip ?_ | refine W_ret ?_ | refine W_exit ?_ | refine thenQ_normal ?_ | refine thenQ_exit ?_ | refine thenQ_ret ?_ | refine blockQ_normal ?_ | refine blockQ_ret ?_ | refine blockQ_same ?_ | refine blockQ_other rfl ?_)
      refine W_reg (by rfl) ?_; intro gd K hgd hK; simp (disch := first | omega | assumption | rfl) only [↓reduceIte, go_sem, Nat.reduceLT, Nat.reduceEqDiff, Nat.reduceSub, h11, h0]; refine hK _ _ ?_; clear hK hgd; clear K gd
      repeat (with_reducible first | refine W_seq ?_ | refine W_block ?_ | refine W_skip ?_ | refine W_ret ?_ | refine W_exit ?_ | refine thenQ_normal ?_ | refine thenQ_exit ?_ | refine thenQ_ret ?_ | refine blockQ_normal ?_ | refine blockQ_ret ?_ | refine blockQ_same ?_ | refine blockQ_other rfl ?_)
      refine W_cond (by simp only [↓reduceIte, go_sem, Nat.reduceLT, Nat.reduceEqDiff, Nat.reduceSub]; rfl) ?_ ?_
      · intro hlt
        simp only [decide_eq_true_eq] at hlt
        have hlaC := fun j h => cellO_ext hwC (hla j h)
        have hsa : la.isSome = true := some_of_cellO (hla k (by omega))
        have hri := hrows k (by omega) (by omega)
        obtain ⟨ia, ic, hiv, _, _⟩ := id hri
        obtain ⟨g, hg⟩ : ∃ g, N[k]'(by omega) = g := ⟨_, rfl⟩
        have hgok := hNok k (by omega)
        rw [hg] at hri hiv hgok
        simp only [List.length_map] at hiv
        rw [hiv] at hri
        have hstep : lastOf (Z.take (k + 1)) Q = if foldN g = Q then some (vi k) else lastOf (Z.take k) Q := by
          rw [take_succ' (by omega), hZi k (by omega), hg, lastOf_app]
        repeat (with_reducible first | refine W_seq ?_ | refine W_block ?_ | refine W_skip ?_ | refine W_ret ?_ | refine W_exit ?_ | refine thenQ_normal ?_ | refine thenQ_exit ?_ | refine thenQ_ret ?_ | refine blockQ_normal ?_ | refine blockQ_ret ?_ | refine blockQ_same ?_ | refine blockQ_other rfl ?_)
        refine W_reg (by rfl) ?_; intro gd K hgd hK
        try simp (disch := first | omega | assumption | rfl) only [↓reduceIte, go_sem, Nat.reduceLT, Nat.reduceEqDiff, Nat.reduceSub, h11, h0, h1, hlaC, hiv]
        refine Fn.mono (RSame_ok C _ _ g q (hri.ext hwC) (hq0.ext hwC) hgok.1 hqb (by omega) (by omega)) ?_
        rintro _ w12 ⟨rfl, hE12⟩
        rw [hQ]
        try simp (disch := first | omega | assumption | rfl) only [↓reduceIte, go_sem, Nat.reduceLT, Nat.reduceEqDiff, Nat.reduceSub]
        refine hK _ _ ?_; clear hK hgd; clear K; try clear gd
        repeat (with_reducible first | refine W_seq ?_ | refine W_block ?_ | refine W_skip ?_ | refine W_ret ?_ | refine W_exit ?_ | refine thenQ_normal ?_ | refine thenQ_exit ?_ | refine thenQ_ret ?_ | refine blockQ_normal ?_ | refine blockQ_ret ?_ | refine blockQ_same ?_ | refine blockQ_other rfl ?_)
        refine W_cond (by simp only [↓reduceIte, go_sem, Nat.reduceLT, Nat.reduceEqDiff, Nat.reduceSub]; rfl) ?_ ?_
        · intro hs
          simp only [decide_eq_true_eq] at hs
          repeat (with_reducible first | refine W_seq ?_ | refine W_block ?_ | refine W_skip ?_ | refine W_ret ?_ | refine W_exit ?_ | refine thenQ_normal ?_ | refine thenQ_exit ?_ | refine thenQ_ret ?_ | refine blockQ_normal ?_ | refine blockQ_ret ?_ | refine blockQ_same ?_ | refine blockQ_other rfl ?_)
          refine W_reg (by rfl) ?_; intro gd K hgd hK; simp (disch := first | omega | assumption | rfl) only [↓reduceIte, go_sem, Nat.reduceLT, Nat.reduceEqDiff, Nat.reduceSub, h11]; refine hK _ _ ?_; clear hK hgd; clear K gd
          repeat (with_reducible first | refine W_seq ?_ | refine W_block ?_ | refine W_skip ?_ | refine W_ret ?_ | refine W_exit ?_ | refine thenQ_normal ?_ | refine thenQ_exit ?_ | refine thenQ_ret ?_ | refine blockQ_normal ?_ | refine blockQ_ret ?_ | refine blockQ_same ?_ | refine blockQ_other rfl ?_)
          refine W_reg (by rfl) ?_; intro gd K hgd hK; simp (disch := first | omega | assumption | rfl) only [↓reduceIte, go_sem, Nat.reduceLT, Nat.reduceEqDiff, Nat.reduceSub, h11]; refine hK _ _ ?_; clear hK hgd; clear K gd
          repeat (with_reducible first | refine W_seq ?_ | refine W_block ?_ | refine W_skip ?_ | refine W_ret ?_ | refine W_exit ?_ | refine thenQ_normal ?_ | refine thenQ_exit ?_ | refine thenQ_ret ?_ | refine blockQ_normal ?_ | refine blockQ_ret ?_ | refine blockQ_same ?_ | refine blockQ_other rfl ?_)
          refine ⟨m3 - 1, by omega, rfl, k + 1, k, by omega, by simp only [↓reduceIte, go_sem, Nat.reduceLT, Nat.reduceEqDiff, Nat.reduceSub]; push_cast; rfl, by simp only [↓reduceIte, go_sem, Nat.reduceLT, Nat.reduceEqDiff, Nat.reduceSub], by simp only [↓reduceIte, go_sem, Nat.reduceLT, Nat.reduceEqDiff, Nat.reduceSub, h6], by simp only [↓reduceIte, go_sem, Nat.reduceLT, Nat.reduceEqDiff, Nat.reduceSub, h0], by simp only [↓reduceIte, go_sem, Nat.reduceLT, Nat.reduceEqDiff, Nat.reduceSub, h1], by simp only [↓reduceIte, go_sem, Nat.reduceLT, Nat.reduceEqDiff, Nat.reduceSub, h5], hEC.trans hE12, .inr ⟨k, rfl, ?_⟩⟩
          rw [hstep, if_pos hs]
        · intro hs
          simp only [decide_eq_false_iff_not] at hs
          repeat (with_reducible first | refine W_seq ?_ | refine W_block ?_ | refine W_skip ?_ | refine W_ret ?_ | refine W_exit ?_ | refine thenQ_normal ?_ | refine thenQ_exit ?_ | refine thenQ_ret ?_ | refine blockQ_normal ?_ | refine blockQ_ret ?_ | refine blockQ_same ?_ | refine blockQ_other rfl ?_)
          refine W_reg (by rfl) ?_; intro gd K hgd hK; simp (disch := first | omega | assumption | rfl) only [↓reduceIte, go_sem, Nat.reduceLT, Nat.reduceEqDiff, Nat.reduceSub, h11]; refine hK _ _ ?_; clear hK hgd; clear K gd
          repeat (with_reducible first | refine W_seq ?_ | refine W_block ?_ | refine W_skip ?_ | refine W_ret ?_ | refine W_exit ?_ | refine thenQ_normal ?_ | refine thenQ_exit ?_ | refine thenQ_ret ?_ | refine blockQ_normal ?_ | refine blockQ_ret ?_ | refine blockQ_same ?_ | refine blockQ_other rfl ?_)
          refine ⟨m3 - 1, by omega, rfl, k + 1, want, by omega, by simp only [↓reduceIte, go_sem, Nat.reduceLT, Nat.reduceEqDiff, Nat.reduceSub]; push_cast; rfl, by simp only [↓reduceIte, go_sem, Nat.reduceLT, Nat.reduceEqDiff, Nat.reduceSub, h10], by simp only [↓reduceIte, go_sem, Nat.reduceLT, Nat.reduceEqDiff, Nat.reduceSub, h6], by simp only [↓reduceIte, go_sem, Nat.reduceLT, Nat.reduceEqDiff, Nat.reduceSub, h0], by simp only [↓reduceIte, go_sem, Nat.reduceLT, Nat.reduceEqDiff, Nat.reduceSub, h1], by simp only [↓reduceIte, go_sem, Nat.reduceLT, Nat.reduceEqDiff, Nat.reduceSub, h5], hEC.trans hE12, ?_⟩
          rw [hstep, if_neg hs]; exact hw
      intro hge3
      simp only [decide_eq_false_iff_not] at hge3
      rw [List.take_of_length_le (by omega)] at hw
      clear h11 hge3 hkm
      have hTC := hTB.on hEC
      repeat (with_reducible first | refine W_seq ?_ | refine W_block ?_ | refine W_skip ?_ | refine W_ret ?_ | refine W_exit ?_ | refine thenQ_normal ?_ | refine thenQ_exit ?_ | refine thenQ_ret ?_ | refine blockQ_normal ?_ | refine blockQ_ret ?_ | refine blockQ_same ?_ | refine blockQ_other rfl ?_)
      refine W_reg (by rfl) ?_; intro gd K hgd hK
      try simp (disch := first | omega | assumption | rfl) only [↓reduceIte, go_sem, Nat.reduceLT, Nat.reduceEqDiff, Nat.reduceSub, h5, h1]
      refine Fn.mono (Get_ok (n := q) hTC.lies hTC.ok (hq0.ext hwC) hqb (by omega)) ?_
      rw [hQ]
      rintro _ D ⟨rfl, hED⟩
      try simp (disch := first | omega | assumption | rfl) only [↓reduceIte, go_sem, Nat.reduceLT, Nat.reduceEqDiff, Nat.reduceSub]
      refine hK _ _ ?_; clear hK hgd; clear K; try clear gd
      have hwD := hwC.trans hED
      have hTD := hTC.on hED
      repeat (with_reducible first | refine W_seq ?_ | refine W_block ?_ | refine W_skip ?_ | refine W_ret ?_ | refine W_exit ?_ | refine thenQ_normal ?_ | refine thenQ_exit ?_ | refine thenQ_ret ?_ | refine blockQ_normal ?_ | refine blockQ_ret ?_ | refine blockQ_same ?_ | refine blockQ_other rfl ?_)
      refine W_mono (Q := fun e σ' ds' v' => e = .normal ∧ ds' = [] ∧ v' = D ∧ σ' 6 = .slice ya ws.length yc ∧ σ' 1 = .slice qa q.length qc ∧ σ' 5 = ptrOf tb ∧ σ' 147 = .bool false) ?_ ?_
      · refine W_reg (by rfl) ?_; intro gd K hgd hK
        have hg4 : ∀ n σ b, wantV gd n σ (some (4, b)) = boolIs (ev n σ (.tmp 132)) b := (fun n σ b => by rw [wantV_some, show gd 4 = some 132 from (by rw [hgd]; rfl)]; rfl); have hg6 : ∀ n σ b, wantV gd n σ (some (6, b)) = boolIs (ev n σ (.tmp 134)) b := (fun n σ b => by rw [wantV_some, show gd 6 = some 134 from (by rw [hgd]; rfl)]; rfl); have hg12 : ∀ n σ b, wantV gd n σ (some (12, b)) = boolIs (ev n σ (.tmp 140)) b := (fun n σ b => by rw [wantV_some, show gd 12 = some 140 from (by rw [hgd]; rfl)]; rfl); have hg15 : ∀ n σ b, wantV gd n σ (some (15, b)) = boolIs (ev n σ (.tmp 143)) b := (fun n σ b => by rw [wantV_some, show gd 15 = some 143 from (by rw [hgd]; rfl)]; rfl)
        rcases hw with ⟨rfl, hlast⟩ | ⟨j, rfl, hlast⟩
        · have hhas : s.has Q = false := by rw [hT.hist.has, hlast]; rfl
          have hcmp : (decide ((0 : Int) ≤ -1)) = false := by decide
          try simp (disch := first | omega | assumption | rfl) only [↓reduceIte, go_sem, Nat.reduceLT, Nat.reduceEqDiff, Nat.reduceSub, h10, hhas, hcmp, decide_true, ↓hg4, ↓hg6, ↓hg12, ↓hg15]
          refine hK _ _ ?_; clear hK hgd; clear K; try clear gd
          exact ⟨rfl, rfl, rfl, by simp only [↓reduceIte, go_sem, Nat.reduceLT, Nat.reduceEqDiff, Nat.reduceSub, h6], by simp only [↓reduceIte, go_sem, Nat.reduceLT, Nat.reduceEqDiff, Nat.reduceSub, h1], by simp only [↓reduceIte, go_sem, Nat.reduceLT, Nat.reduceEqDiff, Nat.reduceSub, h5], by simp only [↓reduceIte, go_sem, Nat.reduceLT, Nat.reduceEqDiff, Nat.reduceSub]⟩
        · have hhas : s.has Q = true := by rw [hT.hist.has, hlast]; rfl
          have hval : s.val Q = vi j := by rw [hT.hist.val, hlast]; rfl
          have hcmp : (decide ((0 : Int) ≤ j)) = true := by simp
          try simp (disch := first | omega | assumption | rfl) only [↓reduceIte, go_sem, Nat.reduceLT, Nat.reduceEqDiff, Nat.reduceSub, h10, hhas, hval, hcmp, decide_true, ↓hg4, ↓hg6, ↓hg12, ↓hg15]
          refine hK _ _ ?_; clear hK hgd; clear K; try clear gd
          exact ⟨rfl, rfl, rfl, by simp only [↓reduceIte, go_sem, Nat.reduceLT, Nat.reduceEqDiff, Nat.reduceSub, h6], by simp only [↓reduceIte, go_sem, Nat.reduceLT, Nat.reduceEqDiff, Nat.reduceSub, h1], by simp only [↓reduceIte, go_sem, Nat.reduceLT, Nat.reduceEqDiff, Nat.reduceSub, h5], by simp only [↓reduceIte, go_sem, Nat.reduceLT, Nat.reduceEqDiff, Nat.reduceSub]⟩
      clear h0 h1 h5 h6 h10
      rintro _ σ' _ D' ⟨rfl, rfl, hDD, h6, h1, h5, h147⟩
      rw [hDD]
      clear hDD D'
      repeat (with_reducible first | refine W_seq ?_ | refine W_block ?_ | refine W_skip ?_ | refine W_ret ?_ | refine W_exit ?_ | refine thenQ_normal ?_ | refine thenQ_exit ?_ | refine thenQ_ret ?_ | refine blockQ_normal ?_ | refine blockQ_ret ?_ | refine blockQ_same ?_ | refine blockQ_other rfl ?_)
      refine W_cond (by simp only [↓reduceIte, go_sem, Nat.reduceLT, Nat.reduceEqDiff, Nat.reduceSub, h147]; rfl) ?_ ?_
      · intro h; simp at h
      intro _
      clear h147 hw
      repeat (with_reducible first | refine W_seq ?_ | refine W_block ?_ | refine W_skip ?_ | refine W_ret ?_ | refine W_exit ?_ | refine thenQ_normal ?_ | refine thenQ_exit ?_ | refine thenQ_ret ?_ | refine blockQ_normal ?_ | refine blockQ_ret ?_ | refine blockQ_same ?_ | refine blockQ_other rfl ?_)
      refine W_reg (by rfl) ?_; intro gd K hgd hK; simp (disch := first | omega | assumption | rfl) only [↓reduceIte, go_sem, Nat.reduceLT, Nat.reduceEqDiff, Nat.reduceSub]; refine hK _ _ ?_; clear hK hgd; clear K gd
      repeat (with_reducible first | refine W_seq ?_ | refine W_block ?_ | refine W_skip ?_ | refine W_ret ?_ | refine W_exit ?_ | refine thenQ_normal ?_ | refine thenQ_exit ?_ | refine thenQ_ret ?_ | refine blockQ_normal ?_ | refine blockQ_ret ?_ | refine blockQ_same ?_ | refine blockQ_other rfl ?_)
      refine W_reg (by rfl) ?_; intro gd K hgd hK; simp (disch := first | omega | assumption | rfl) only [↓reduceIte, go_sem, Nat.reduceLT, Nat.reduceEqDiff, Nat.reduceSub]; refine hK _ _ ?_; clear hK hgd; clear K gd
      repeat (with_reducible first | refine W_seq ?_ | refine W_block ?_ | refine W_skip ?_ | refine W_ret ?_ | refine W_exit ?_ | refine thenQ_normal ?_ | refine thenQ_exit ?_ | refine thenQ_ret ?_ | refine blockQ_normal ?_ | refine blockQ_ret ?_ | refine blockQ_same ?_ | refine blockQ_other rfl ?_)
      refine W_reg (by rfl) ?_; intro gd K hgd hK; simp (disch := first | omega | assumption | rfl) only [↓reduceIte, go_sem, Nat.reduceLT, Nat.reduceEqDiff, Nat.reduceSub]; refine hK _ _ ?_; clear hK hgd; clear K gd
      repeat (with_reducible first | refine W_seq ?_ | refine W_block ?_ | refine W_skip ?_ | refine W_ret ?_ | refine W_exit ?_ | refine thenQ_normal ?_ | refine thenQ_exit ?_ | refine thenQ_ret ?_ | refine blockQ_normal ?_ | refine blockQ_ret ?_ | refine blockQ_same ?_ | refine blockQ_other rfl ?_)
      refine W_reg (by rfl) ?_; intro gd K hgd hK; simp (disch := first | omega | assumption | rfl) only [↓reduceIte, go_sem, Nat.reduceLT, Nat.reduceEqDiff, Nat.reduceSub]; refine hK _ _ ?_; clear hK hgd; clear K gd
      repeat (with_reducible first | refine W_seq ?_ | refine W_block ?_ | refine W_skip ?_ | refine W_ret ?_ | refine W_exit ?_ | refine thenQ_normal ?_ | refine thenQ_exit ?_ | refine thenQ_ret ?_ | refine blockQ_normal ?_ | refine blockQ_ret ?_ | refine blockQ_same ?_ | refine blockQ_other rfl ?_)
      refine W_loop (fun m σ ds E => ds = [] ∧ ∃ (k : Nat) (dv : Value) (dn : Nm) (kv : Value), k + m = ws.length ∧ σ 17 = vi k ∧ σ 14 = dv ∧ σ 15 = kv ∧ σ 16 = .bool (decide (Q ∈ La.take k)) ∧ σ 6 = .slice ya ws.length yc ∧ σ 1 = .slice qa q.length qc ∧ σ 5 = ptrOf tb ∧ Ext D E ∧
        Row D dv (dn.map vs) ∧ DeepOf Q (La.take k) dn ∧ Own D.heap.size E 9 kv ((kidsOf (La.take k) Q).map vs)) ws.length ?_ ?_
      · refine ⟨rfl, 0, _, [], _, by omega, ?_, ?_, ?_, ?_, ?_, ?_, ?_, Keep.refl _ _, ⟨Option.none, 0, rfl, Nat.le_refl _, fun j h => by simp at h⟩, DeepOf.nil Q, Own.nil _ _ _⟩
        · simp only [↓reduceIte, go_sem, Nat.reduceLT, Nat.reduceEqDiff, Nat.reduceSub]; rfl
        · simp only [↓reduceIte, go_sem, Nat.reduceLT, Nat.reduceEqDiff, Nat.reduceSub]; rfl
        · simp only [↓reduceIte, go_sem, Nat.reduceLT, Nat.reduceEqDiff, Nat.reduceSub]
        · simp only [↓reduceIte, go_sem, Nat.reduceLT, Nat.reduceEqDiff, Nat.reduceSub]; rfl
        · simp only [↓reduceIte, go_sem, Nat.reduceLT, Nat.reduceEqDiff, Nat.reduceSub, h6]
        · simp only [↓reduceIte, go_sem, Nat.reduceLT, Nat.reduceEqDiff, Nat.reduceSub, h1]
        · simp only [↓reduceIte, go_sem, Nat.reduceLT, Nat.reduceEqDiff, Nat.reduceSub, h5]
      clear h1 h5 h6
      rintro m4 σ ds E ⟨rfl, k, dv, dn, kv, hkm, h17, h14, h15, h16, h6, h1, h5, hEE, hdr, hdeepk, hko⟩
      have hwE := hwD.trans hEE
      have hAD : Ext A D := (hEAB.trans hEC).trans hED
      have hAE : Ext A E := hAD.trans hEE
      have hTE := hT.on hAE
      repeat (with_reducible first | refine W_seq ?_ | refine W_block ?_ | refine W_skip ?_ | refine W_ret ?_ | refine W_exit ?_ | refine thenQ_normal ?_ | refine thenQ_exit ?_ | refine thenQ_ret ?_ | refine blockQ_normal ?_ | refine blockQ_ret ?_ | refine blockQ_same ?_ | refine blockQ_other rfl ?_)
      refine W_reg (by rfl) ?_; intro gd K hgd hK; simp (disch := first | omega | assumption | rfl) only [↓reduceIte, go_sem, Nat.reduceLT, Nat.reduceEqDiff, Nat.reduceSub, h17, h6]; refine hK _ _ ?_; clear hK hgd; clear K gd
      repeat (with_reducible first | refine W_seq ?_ | refine W_block ?_ | refine W_skip ?_ | refine W_ret ?_ | refine W_exit ?_ | refine thenQ_normal ?_ | refine thenQ_exit ?_ | refine thenQ_ret ?_ | refine blockQ_normal ?_ | refine blockQ_ret ?_ | refine blockQ_same ?_ | refine blockQ_other rfl ?_)
      refine W_cond (by simp only [↓reduceIte, go_sem, Nat.reduceLT, Nat.reduceEqDiff, Nat.reduceSub]; rfl) ?_ ?_
      · intro hlt
        simp only [decide_eq_true_eq] at hlt
        have hysa : ya.isSome = true := some_of_cellO (hya k (by omega))
        have hyk := hyr k (by omega) (by omega)
        have hLk := hLdeep k (by omega)
        obtain ⟨g, hg⟩ : ∃ g, La[k]'(by omega) = g := ⟨_, rfl⟩
        rw [hg] at hyk hLk
        obtain ⟨hgl, hgb, hgf⟩ := hLk
        have htk : La.take (k + 1) = La.take k ++ [g] := by rw [take_succ' (by omega), hg]
        obtain ⟨ma, mc, hmv, _, hmc⟩ := id hyk
        simp only [List.length_map] at hmv hmc
        rw [hmv] at hyk
        obtain ⟨da, dc, rfl, _, _⟩ := id hdr
        simp only [List.length_map] at hdr h14
        have hyaE := fun j h => cellO_ext hAE (hya j h)
        repeat (with_reducible first | refine W_seq ?_ | refine W_block ?_ | refine W_skip ?_ | refine W_ret ?_ | refine W_exit ?_ | refine thenQ_normal ?_ | refine thenQ_exit ?_ | refine thenQ_ret ?_ | refine blockQ_normal ?_ | refine blockQ_ret ?_ | refine blockQ_same ?_ | refine blockQ_other rfl ?_)
        refine W_mono (Q := fun e σ' ds' v' => e = .normal ∧ ds' = [] ∧ σ' 6 = σ 6 ∧ σ' 1 = σ 1 ∧ σ' 5 = σ 5 ∧ σ' 14 = σ 14 ∧ σ' 15 = σ 15 ∧ σ' 16 = σ 16 ∧ σ' 17 = σ 17 ∧ Ext E v' ∧ σ' 169 = .bool (under q g && decide (dn.length ≤ g.length))) ?_ ?_
        · refine W_reg (by rfl) ?_; intro gd K hgd hK
          have hg6 : ∀ n σ b, wantV gd n σ (some (6, b)) = boolIs (ev n σ (.tmp 160)) b := (fun n σ b => by rw [wantV_some, show gd 6 = some 160 from (by rw [hgd]; rfl)]; rfl)
          try simp (disch := first | omega | assumption | rfl) only [↓reduceIte, go_sem, Nat.reduceLT, Nat.reduceEqDiff, Nat.reduceSub, h17, h6, h1, hyaE, hmv]
          refine Fn.mono (RUnder_ok E _ _ q g (hq0.ext hwE) (hyk.ext hAE) hqb hgb (by omega) (by omega)) ?_
          rintro _ E2 ⟨rfl, hE2⟩
          have hyaE2 := fun j h => cellO_ext (hAE.trans hE2) (hya j h)
          by_cases hu : under q g = true
          · try simp (disch := first | omega | assumption | rfl) only [↓reduceIte, go_sem, Nat.reduceLT, Nat.reduceEqDiff, Nat.reduceSub, hu, h17, h6, h14, hyaE2, hmv, ↓hg6]
            refine hK _ _ ?_; clear hK hgd; clear K; try clear gd
            refine ⟨rfl, rfl, by simp only [↓reduceIte, go_sem, Nat.reduceLT, Nat.reduceEqDiff, Nat.reduceSub, h6], by simp only [↓reduceIte, go_sem, Nat.reduceLT, Nat.reduceEqDiff, Nat.reduceSub], by simp only [↓reduceIte, go_sem, Nat.reduceLT, Nat.reduceEqDiff, Nat.reduceSub], by simp only [↓reduceIte, go_sem, Nat.reduceLT, Nat.reduceEqDiff, Nat.reduceSub, h14], by simp only [↓reduceIte, go_sem, Nat.reduceLT, Nat.reduceEqDiff, Nat.reduceSub], by simp only [↓reduceIte, go_sem, Nat.reduceLT, Nat.reduceEqDiff, Nat.reduceSub], by simp only [↓reduceIte, go_sem, Nat.reduceLT, Nat.reduceEqDiff, Nat.reduceSub, h17], hE2, ?_⟩
            simp only [↓reduceIte, go_sem, Nat.reduceLT, Nat.reduceEqDiff, Nat.reduceSub]
            rw [show decide ((dn.length : Int) ≤ g.length) = decide (dn.length ≤ g.length) from by simp, hu]
            rfl
          · rw [Bool.not_eq_true] at hu
            try simp (disch := first | omega | assumption | rfl) only [↓reduceIte, go_sem, Nat.reduceLT, Nat.reduceEqDiff, Nat.reduceSub, hu, ↓hg6]
            refine hK _ _ ?_; clear hK hgd; clear K; try clear gd
            refine ⟨rfl, rfl, by simp only [↓reduceIte, go_sem, Nat.reduceLT, Nat.reduceEqDiff, Nat.reduceSub, h6], by simp only [↓reduceIte, go_sem, Nat.reduceLT, Nat.reduceEqDiff, Nat.reduceSub], by simp only [↓reduceIte, go_sem, Nat.reduceLT, Nat.reduceEqDiff, Nat.reduceSub], by simp only [↓reduceIte, go_sem, Nat.reduceLT, Nat.reduceEqDiff, Nat.reduceSub], by simp only [↓reduceIte, go_sem, Nat.reduceLT, Nat.reduceEqDiff, Nat.reduceSub], by simp only [↓reduceIte, go_sem, Nat.reduceLT, Nat.reduceEqDiff, Nat.reduceSub], by simp only [↓reduceIte, go_sem, Nat.reduceLT, Nat.reduceEqDiff, Nat.reduceSub, h17], hE2, ?_⟩
            simp only [↓reduceIte, go_sem, Nat.reduceLT, Nat.reduceEqDiff, Nat.reduceSub]
            rw [hu]; rfl
        rintro _ σ5 _ E2 ⟨rfl, rfl, f6, f1, f5, f14, f15, f16, f17, hE2, f169⟩
        rw [h6] at f6; rw [h1] at f1; rw [h5] at f5; rw [h14] at f14; rw [h15] at f15; rw [h16] at f16; rw [h17] at f17
        have hAE2 := hAE.trans hE2
        have hyaE2 := fun j h => cellO_ext hAE2 (hya j h)
        repeat (with_reducible first | refine W_seq ?_ | refine W_block ?_ | refine W_skip ?_ | refine W_ret ?_ | refine W_exit ?_ | refine thenQ_normal ?_ | refine thenQ_exit ?_ | refine thenQ_ret ?_ | refine blockQ_normal ?_ | refine blockQ_ret ?_ | refine blockQ_same ?_ | refine blockQ_other rfl ?_)
        refine W_mono (Q := fun e σ' ds' v' => e = .normal ∧ ds' = [] ∧ v' = E2 ∧ σ' 6 = σ5 6 ∧ σ' 1 = σ5 1 ∧ σ' 5 = σ5 5 ∧ σ' 15 = σ5 15 ∧ σ' 16 = σ5 16 ∧ σ' 17 = σ5 17 ∧ ∃ dv' dn', σ' 14 = dv' ∧ Row D dv' (dn'.map vs) ∧ DeepOf Q (La.take (k + 1)) dn') ?_ ?_
        · refine W_cond (by simp only [↓reduceIte, go_sem, Nat.reduceLT, Nat.reduceEqDiff, Nat.reduceSub, f169]; rfl) ?_ ?_
          · intro hc
            rw [Bool.and_eq_true, under_iff hgf, decide_eq_true_eq, hQ] at hc
            repeat (with_reducible first | refine W_seq ?_ | refine W_block ?_ | refine W_skip ?_ | refine W_ret ?_ | refine W_exit ?_ | refine thenQ_normal ?_ | refine thenQ_exit ?_ | refine thenQ_ret ?_ | refine blockQ_normal ?_ | refine blockQ_ret ?_ | refine blockQ_same ?_ | refine blockQ_other rfl ?_)
            refine W_reg (by rfl) ?_; intro gd K hgd hK; simp (disch := first | omega | assumption | rfl) only [↓reduceIte, go_sem, Nat.reduceLT, Nat.reduceEqDiff, Nat.reduceSub, f17, f6, hyaE2, hmv]; refine hK _ _ ?_; clear hK hgd; clear K gd
            refine ⟨rfl, rfl, rfl, by simp only [↓reduceIte, go_sem, Nat.reduceLT, Nat.reduceEqDiff, Nat.reduceSub, f6], by simp only [↓reduceIte, go_sem, Nat.reduceLT, Nat.reduceEqDiff, Nat.reduceSub], by simp only [↓reduceIte, go_sem, Nat.reduceLT, Nat.reduceEqDiff, Nat.reduceSub], by simp only [↓reduceIte, go_sem, Nat.reduceLT, Nat.reduceEqDiff, Nat.reduceSub], by simp only [↓reduceIte, go_sem, Nat.reduceLT, Nat.reduceEqDiff, Nat.reduceSub], by simp only [↓reduceIte, go_sem, Nat.reduceLT, Nat.reduceEqDiff, Nat.reduceSub, f17], _, g, by simp only [↓reduceIte, go_sem, Nat.reduceLT, Nat.reduceEqDiff, Nat.reduceSub], hyk.ext hAD, ?_⟩
            rw [htk]; exact hdeepk.step.1 hc.1 hc.2
          · intro hc
            repeat (with_reducible first | refine W_seq ?_ | refine W_block ?_ | refine W_skip ?_ | refine W_ret ?_ | refine W_exit ?_ | refine thenQ_normal ?_ | refine thenQ_exit ?_ | refine thenQ_ret ?_ | refine blockQ_normal ?_ | refine blockQ_ret ?_ | refine blockQ_same ?_ | refine blockQ_other rfl ?_)
            refine ⟨rfl, rfl, rfl, rfl, rfl, rfl, rfl, rfl, rfl, _, dn, f14, hdr, ?_⟩
            rw [htk]
            refine hdeepk.step.2 (fun h => ?_)
            rw [(under_iff hgf).2 (by rw [hQ]; exact h.1), decide_eq_true h.2] at hc
            simp at hc
        clear f14
        rintro _ σ6 _ E2' ⟨rfl, rfl, hE2', e6, e1, e5, e15, e16, e17, dv', dn', e14, hdr', hdeep'⟩
        rw [hE2']
        clear hE2' E2'
        rw [f6] at e6; rw [f1] at e1; rw [f5] at e5; rw [f15] at e15; rw [f16] at e16; rw [f17] at e17
        clear f6 f1 f5 f15 f16 f17 f169
        repeat (with_reducible first | refine W_seq ?_ | refine W_block ?_ | refine W_skip ?_ | refine W_ret ?_ | refine W_exit ?_ | refine thenQ_normal ?_ | refine thenQ_exit ?_ | refine thenQ_ret ?_ | refine blockQ_normal ?_ | refine blockQ_ret ?_ | refine blockQ_same ?_ | refine blockQ_other rfl ?_)
        refine W_mono (Q := fun e σ' ds' v' => e = .normal ∧ ds' = [] ∧ σ' 6 = σ6 6 ∧ σ' 1 = σ6 1 ∧ σ' 5 = σ6 5 ∧ σ' 14 = σ6 14 ∧ σ' 15 = σ6 15 ∧ σ' 16 = σ6 16 ∧ σ' 17 = σ6 17 ∧ Ext E2 v' ∧ σ' 190 = .bool (decide (g.length = q.length + 1) && under g q)) ?_ ?_
        · refine W_reg (by rfl) ?_; intro gd K hgd hK
          have hg9 : ∀ n σ b, wantV gd n σ (some (9, b)) = boolIs (ev n σ (.tmp 183)) b := (fun n σ b => by rw [wantV_some, show gd 9 = some 183 from (by rw [hgd]; rfl)]; rfl)
          by_cases hlq : (g.length : Int) = q.length + 1
          · try simp (disch := first | omega | assumption | rfl) only [↓reduceIte, go_sem, Nat.reduceLT, Nat.reduceEqDiff, Nat.reduceSub, e17, e6, e1, hyaE2, hmv, decide_eq_true hlq, ↓hg9]
            refine Fn.mono (RUnder_ok E2 _ _ g q (hyk.ext hAE2) (hq0.ext (hwE.trans hE2)) hgb hqb (by omega) (by omega)) ?_
            rintro _ E3 ⟨rfl, hE3⟩
            try simp (disch := first | omega | assumption | rfl) only [↓reduceIte, go_sem, Nat.reduceLT, Nat.reduceEqDiff, Nat.reduceSub, decide_eq_true hlq, ↓hg9]
            refine hK _ _ ?_; clear hK hgd; clear K; try clear gd
            refine ⟨rfl, rfl, by simp only [↓reduceIte, go_sem, Nat.reduceLT, Nat.reduceEqDiff, Nat.reduceSub, e6], by simp only [↓reduceIte, go_sem, Nat.reduceLT, Nat.reduceEqDiff, Nat.reduceSub, e1], by simp only [↓reduceIte, go_sem, Nat.reduceLT, Nat.reduceEqDiff, Nat.reduceSub], by simp only [↓reduceIte, go_sem, Nat.reduceLT, Nat.reduceEqDiff, Nat.reduceSub], by simp only [↓reduceIte, go_sem, Nat.reduceLT, Nat.reduceEqDiff, Nat.reduceSub], by simp only [↓reduceIte, go_sem, Nat.reduceLT, Nat.reduceEqDiff, Nat.reduceSub], by simp only [↓reduceIte, go_sem, Nat.reduceLT, Nat.reduceEqDiff, Nat.reduceSub, e17], hE3, ?_⟩
            simp only [↓reduceIte, go_sem, Nat.reduceLT, Nat.reduceEqDiff, Nat.reduceSub]
            rw [decide_eq_true (show g.length = q.length + 1 by omega)]; rfl
          · try simp (disch := first | omega | assumption | rfl) only [↓reduceIte, go_sem, Nat.reduceLT, Nat.reduceEqDiff, Nat.reduceSub, e17, e6, e1, hyaE2, hmv, decide_eq_false hlq, ↓hg9]
            refine hK _ _ ?_; clear hK hgd; clear K; try clear gd
            refine ⟨rfl, rfl, by simp only [↓reduceIte, go_sem, Nat.reduceLT, Nat.reduceEqDiff, Nat.reduceSub, e6], by simp only [↓reduceIte, go_sem, Nat.reduceLT, Nat.reduceEqDiff, Nat.reduceSub, e1], by simp only [↓reduceIte, go_sem, Nat.reduceLT, Nat.reduceEqDiff, Nat.reduceSub], by simp only [↓reduceIte, go_sem, Nat.reduceLT, Nat.reduceEqDiff, Nat.reduceSub], by simp only [↓reduceIte, go_sem, Nat.reduceLT, Nat.reduceEqDiff, Nat.reduceSub], by simp only [↓reduceIte, go_sem, Nat.reduceLT, Nat.reduceEqDiff, Nat.reduceSub], by simp only [↓reduceIte, go_sem, Nat.reduceLT, Nat.reduceEqDiff, Nat.reduceSub, e17], Keep.refl _ _, ?_⟩
            simp only [↓reduceIte, go_sem, Nat.reduceLT, Nat.reduceEqDiff, Nat.reduceSub]
            rw [decide_eq_false (show ¬ g.length = q.length + 1 by omega)]; rfl
        rintro _ σ7 _ E3 ⟨rfl, rfl, f6, f1, f5, f14, f15, f16, f17, hE3, f190⟩
        rw [e6] at f6; rw [e1] at f1; rw [e5] at f5; rw [e14] at f14; rw [e15] at f15; rw [e16] at f16; rw [e17] at f17
        have hAE3 := hAE2.trans hE3
        have hyaE3 := fun j h => cellO_ext hAE3 (hya j h)
        have hko3 := (hko.ext hE2).ext hE3
        repeat (with_reducible first | refine W_seq ?_ | refine W_block ?_ | refine W_skip ?_ | refine W_ret ?_ | refine W_exit ?_ | refine thenQ_normal ?_ | refine thenQ_exit ?_ | refine thenQ_ret ?_ | refine blockQ_normal ?_ | refine blockQ_ret ?_ | refine blockQ_same ?_ | refine blockQ_other rfl ?_)
        refine W_mono (Q := fun e σ' ds' v'' => e = .normal ∧ ds' = [] ∧ σ' 6 = σ7 6 ∧ σ' 1 = σ7 1 ∧ σ' 5 = σ7 5 ∧ σ' 14 = σ7 14 ∧ σ' 16 = σ7 16 ∧ σ' 17 = σ7 17 ∧ Keep (fun b => some b = kv.ownBlock) E3 v'' ∧ Ext D v'' ∧ ∃ kv', σ' 15 = kv' ∧ Own D.heap.size v'' 9 kv' ((kidsOf (La.take (k + 1)) Q).map vs)) ?_ ?_
        · refine W_cond (by simp only [↓reduceIte, go_sem, Nat.reduceLT, Nat.reduceEqDiff, Nat.reduceSub, f190]; rfl) ?_ ?_
          · intro hc
            rw [kid_iff hgf, hQ] at hc
            obtain ⟨l, rfl⟩ := hc
            have hm0 : cellO E3 ma = some (vs l) := by
              have := cellO_ext hAE3 (hmc 0 (by simp))
              rw [adr_zero] at this; simpa using this
            have hmsa : ma.isSome = true := by
              cases ma with
              | none => simp [cellO] at hm0
              | some a => rfl
            have hkids : kidsOf (La.take (k + 1)) Q = kidsOf (La.take k) Q ++ [l] := by rw [htk]; exact (kidsOf_snoc _ _ _).1 l rfl
            have hkl : (kidsOf (La.take k) Q).length ≤ k := by
              have := kidsOf_len (La.take k) Q
              rw [List.length_take] at this
              omega
            obtain ⟨pa, pc, rfl⟩ := hko3.slice
            repeat (with_reducible first | refine W_seq ?_ | refine W_block ?_ | refine W_skip ?_ | refine W_ret ?_ | refine W_exit ?_ | refine thenQ_normal ?_ | refine thenQ_exit ?_ | refine thenQ_ret ?_ | refine blockQ_normal ?_ | refine blockQ_ret ?_ | refine blockQ_same ?_ | refine blockQ_other rfl ?_)
            refine W_reg (by rfl) ?_; intro gd K hgd hK
            try simp (disch := first | omega | assumption | rfl) only [↓reduceIte, go_sem, Nat.reduceLT, Nat.reduceEqDiff, Nat.reduceSub, f17, f6, f15, hyaE3, hmv, hm0, adr_zero, Int.toNat_zero, Nat.zero_mul, List.length_cons]
            refine bs_one (z := vs []) rfl rfl rfl rfl rfl ?_
            intro E4 hE4 hs4' ho4
            try simp (disch := first | omega | assumption | rfl) only [↓reduceIte, go_sem, Nat.reduceLT, Nat.reduceEqDiff, Nat.reduceSub]
            refine op_app (hko3.ext hE4) ho4.row rfl rfl rfl rfl rfl rfl (by simp only [↓reduceIte, go_sem, Nat.reduceLT, Nat.reduceEqDiff, Nat.reduceSub, f15]) (by first | (simp only [↓reduceIte, go_sem, Nat.reduceLT, Nat.reduceEqDiff, Nat.reduceSub]; done) | (simp only [↓reduceIte, go_sem, Nat.reduceLT, Nat.reduceEqDiff, Nat.reduceSub]; rfl)) (ones_vs [_]) (by simp; omega) (by decide) (by have := hEE.size; have := hE2.size; have := hE3.size; omega) ?_
            intro kv' E5 ho5 hE5 hk5 _
            try simp (disch := first | omega | assumption | rfl) only [↓reduceIte, go_sem, Nat.reduceLT, Nat.reduceEqDiff, Nat.reduceSub]
            refine hK _ _ ?_; clear hK hgd; clear K; try clear gd
            refine ⟨rfl, rfl, by simp only [↓reduceIte, go_sem, Nat.reduceLT, Nat.reduceEqDiff, Nat.reduceSub, f6], by simp only [↓reduceIte, go_sem, Nat.reduceLT, Nat.reduceEqDiff, Nat.reduceSub], by simp only [↓reduceIte, go_sem, Nat.reduceLT, Nat.reduceEqDiff, Nat.reduceSub], by simp only [↓reduceIte, go_sem, Nat.reduceLT, Nat.reduceEqDiff, Nat.reduceSub], by simp only [↓reduceIte, go_sem, Nat.reduceLT, Nat.reduceEqDiff, Nat.reduceSub], by simp only [↓reduceIte, go_sem, Nat.reduceLT, Nat.reduceEqDiff, Nat.reduceSub, f17], hE4.keep.trans hk5, hE5 _ (((hEE.trans hE2).trans hE3).trans hE4) (Nat.le_refl _), _, by simp only [↓reduceIte, go_sem, Nat.reduceLT, Nat.reduceEqDiff, Nat.reduceSub]; rfl, ?_⟩
            rw [hkids, List.map_append]; exact ho5
          · intro hc
            have hno : ¬ ∃ l, g = l :: Q := fun h => by
              rw [← hQ, ← kid_iff hgf, hc] at h; cases h
            have hkids : kidsOf (La.take (k + 1)) Q = kidsOf (La.take k) Q := by rw [htk]; exact (kidsOf_snoc _ _ _).2 hno
            repeat (with_reducible first | refine W_seq ?_ | refine W_block ?_ | refine W_skip ?_ | refine W_ret ?_ | refine W_exit ?_ | refine thenQ_normal ?_ | refine thenQ_exit ?_ | refine thenQ_ret ?_ | refine blockQ_normal ?_ | refine blockQ_ret ?_ | refine blockQ_same ?_ | refine blockQ_other rfl ?_)
            refine ⟨rfl, rfl, rfl, rfl, rfl, rfl, rfl, rfl, Keep.refl _ _, (hEE.trans hE2).trans hE3, kv, f15, ?_⟩
            rw [hkids]; exact hko3
        rintro _ σ8 _ E6 ⟨rfl, rfl, e6, e1, e5, e14, e16, e17, _, hE6, kv', e15, hko6⟩
        rw [f6] at e6; rw [f1] at e1; rw [f5] at e5; rw [f14] at e14; rw [f16] at e16; rw [f17] at e17
        clear f6 f1 f5 f14 f15 f16 f17 f190
        have hAE6 := hAD.trans hE6
        have hyaE6 := fun j h => cellO_ext hAE6 (hya j h)
        have hon : decide (Q ∈ La.take (k + 1)) = (decide (Q ∈ La.take k) || decide (g = Q)) := by
          rw [htk]; simp [eq_comm]
        repeat (with_reducible first | refine W_seq ?_ | refine W_block ?_ | refine W_skip ?_ | refine W_ret ?_ | refine W_exit ?_ | refine thenQ_normal ?_ | refine thenQ_exit ?_ | refine thenQ_ret ?_ | refine blockQ_normal ?_ | refine blockQ_ret ?_ | refine blockQ_same ?_ | refine blockQ_other rfl ?_)
        refine W_mono (Q := fun e σ' ds' v' => e = .normal ∧ ds' = [] ∧ σ' 6 = σ8 6 ∧ σ' 1 = σ8 1 ∧ σ' 5 = σ8 5 ∧ σ' 14 = σ8 14 ∧ σ' 15 = σ8 15 ∧ σ' 17 = σ8 17 ∧ Ext E6 v' ∧ σ' 16 = .bool (decide (Q ∈ La.take (k + 1)))) ?_ ?_
        · refine W_reg (by rfl) ?_; intro gd K hgd hK
          have hg1 : ∀ n σ b, wantV gd n σ (some (1, b)) = boolIs (ev n σ (.tmp 201)) b := (fun n σ b => by rw [wantV_some, show gd 1 = some 201 from (by rw [hgd]; rfl)]; rfl)
          by_cases hin : Q ∈ La.take k
          · try simp (disch := first | omega | assumption | rfl) only [↓reduceIte, go_sem, Nat.reduceLT, Nat.reduceEqDiff, Nat.reduceSub, e16, decide_eq_true hin, ↓hg1]
            refine hK _ _ ?_; clear hK hgd; clear K; try clear gd
            refine ⟨rfl, rfl, by simp only [↓reduceIte, go_sem, Nat.reduceLT, Nat.reduceEqDiff, Nat.reduceSub], by simp only [↓reduceIte, go_sem, Nat.reduceLT, Nat.reduceEqDiff, Nat.reduceSub], by simp only [↓reduceIte, go_sem, Nat.reduceLT, Nat.reduceEqDiff, Nat.reduceSub], by simp only [↓reduceIte, go_sem, Nat.reduceLT, Nat.reduceEqDiff, Nat.reduceSub], by simp only [↓reduceIte, go_sem, Nat.reduceLT, Nat.reduceEqDiff, Nat.reduceSub], by simp only [↓reduceIte, go_sem, Nat.reduceLT, Nat.reduceEqDiff, Nat.reduceSub], Keep.refl _ _, ?_⟩
            simp only [↓reduceIte, go_sem, Nat.reduceLT, Nat.reduceEqDiff, Nat.reduceSub]
            rw [hon, decide_eq_true hin]; rfl
          · try simp (disch := first | omega | assumption | rfl) only [↓reduceIte, go_sem, Nat.reduceLT, Nat.reduceEqDiff, Nat.reduceSub, e16, decide_eq_false hin, e17, e6, e1, hyaE6, hmv, ↓hg1]
            refine Fn.mono (RSame_ok E6 _ _ g q (hyk.ext hAE6) (hq0.ext (hwD.trans hE6)) hgb hqb (by omega) (by omega)) ?_
            rintro _ E7 ⟨rfl, hE7⟩
            rw [hgf, hQ]
            try simp (disch := first | omega | assumption | rfl) only [↓reduceIte, go_sem, Nat.reduceLT, Nat.reduceEqDiff, Nat.reduceSub, decide_eq_false hin, ↓hg1]
            refine hK _ _ ?_; clear hK hgd; clear K; try clear gd
            refine ⟨rfl, rfl, by simp only [↓reduceIte, go_sem, Nat.reduceLT, Nat.reduceEqDiff, Nat.reduceSub, e6], by simp only [↓reduceIte, go_sem, Nat.reduceLT, Nat.reduceEqDiff, Nat.reduceSub, e1], by simp only [↓reduceIte, go_sem, Nat.reduceLT, Nat.reduceEqDiff, Nat.reduceSub], by simp only [↓reduceIte, go_sem, Nat.reduceLT, Nat.reduceEqDiff, Nat.reduceSub], by simp only [↓reduceIte, go_sem, Nat.reduceLT, Nat.reduceEqDiff, Nat.reduceSub], by simp only [↓reduceIte, go_sem, Nat.reduceLT, Nat.reduceEqDiff, Nat.reduceSub, e17], hE7, ?_⟩
            simp only [↓reduceIte, go_sem, Nat.reduceLT, Nat.reduceEqDiff, Nat.reduceSub]
            rw [hon, decide_eq_false hin]; rfl
        rintro _ σ9 _ E8 ⟨rfl, rfl, f6, f1, f5, f14, f15, f17, hE8, f16⟩
        rw [e6] at f6; rw [e1] at f1; rw [e5] at f5; rw [e14] at f14; rw [e15] at f15; rw [e17] at f17
        repeat (with_reducible first | refine W_seq ?_ | refine W_block ?_ | refine W_skip ?_ | refine W_ret ?_ | refine W_exit ?_ | refine thenQ_normal ?_ | refine thenQ_exit ?_ | refine thenQ_ret ?_ | refine blockQ_normal ?_ | refine blockQ_ret ?_ | refine blockQ_same ?_ | refine blockQ_other rfl ?_)
        refine W_reg (by rfl) ?_; intro gd K hgd hK; simp (disch := first | omega | assumption | rfl) only [↓reduceIte, go_sem, Nat.reduceLT, Nat.reduceEqDiff, Nat.reduceSub, f17]; refine hK _ _ ?_; clear hK hgd; clear K gd
        repeat (with_reducible first | refine W_seq ?_ | refine W_block ?_ | refine W_skip ?_ | refine W_ret ?_ | refine W_exit ?_ | refine thenQ_normal ?_ | refine thenQ_exit ?_ | refine thenQ_ret ?_ | refine blockQ_normal ?_ | refine blockQ_ret ?_ | refine blockQ_same ?_ | refine blockQ_other rfl ?_)
        exact ⟨m4 - 1, by omega, rfl, k + 1, dv', dn', kv', by omega, by simp only [↓reduceIte, go_sem, Nat.reduceLT, Nat.reduceEqDiff, Nat.reduceSub]; push_cast; rfl, by simp only [↓reduceIte, go_sem, Nat.reduceLT, Nat.reduceEqDiff, Nat.reduceSub, f14], by simp only [↓reduceIte, go_sem, Nat.reduceLT, Nat.reduceEqDiff, Nat.reduceSub, f15], by simp only [↓reduceIte, go_sem, Nat.reduceLT, Nat.reduceEqDiff, Nat.reduceSub, f16], by simp only [↓reduceIte, go_sem, Nat.reduceLT, Nat.reduceEqDiff, Nat.reduceSub, f6], by simp only [↓reduceIte, go_sem, Nat.reduceLT, Nat.reduceEqDiff, Nat.reduceSub, f1], by simp only [↓reduceIte, go_sem, Nat.reduceLT, Nat.reduceEqDiff, Nat.reduceSub, f5], hE6.trans hE8, hdr', hdeep', hko6.ext hE8⟩
      intro hge4
      simp only [decide_eq_false_iff_not] at hge4
      rw [List.take_of_length_le (l := La) (by omega)] at h16 hdeepk hko
      have hdn := hdeepk.is hT.ok hM
      have hkl : (kidsOf La Q).length ≤ 1002001 := by have := kidsOf_len La Q; omega
      have hks := kidsOf_sorted hR hT.ok.nd hM Q
      have honM : decide (Q ∈ La) = decide (Q ∈ s.names) := by
        by_cases h : Q ∈ s.names
        · rw [decide_eq_true h, decide_eq_true ((hM Q).2 h)]
        · rw [decide_eq_false h, decide_eq_false (fun h' => h ((hM Q).1 h'))]
      rw [honM] at h16
      obtain ⟨pa, pc, rfl⟩ := hko.slice
      obtain ⟨da, dc, rfl, _, _⟩ := id hdr
      simp only [List.length_map] at hdr h14 h15
      repeat (with_reducible first | refine W_seq ?_ | refine W_block ?_ | refine W_skip ?_ | refine W_ret ?_ | refine W_exit ?_ | refine thenQ_normal ?_ | refine thenQ_exit ?_ | refine thenQ_ret ?_ | refine blockQ_normal ?_ | refine blockQ_ret ?_ | refine blockQ_same ?_ | refine blockQ_other rfl ?_)
      refine W_reg (by rfl) ?_; intro gd K hgd hK
      try simp (disch := first | omega | assumption | rfl) only [↓reduceIte, go_sem, Nat.reduceLT, Nat.reduceEqDiff, Nat.reduceSub, h5, h1]
      refine Fn.mono (Kids_ok (n := q) hTE.lies hTE.ok (hTE.small hsh (by decide) hZlen) (hq0.ext hwE) hqb (by omega)) ?_
      rw [hQ, hks]
      rintro kv2 E2 ⟨hkr, hE2⟩
      obtain ⟨ra, rc, rfl, hrc, hra⟩ := id hkr
      simp only [List.length_map] at hrc hra
      try simp (disch := first | omega | assumption | rfl) only [↓reduceIte, go_sem, Nat.reduceLT, Nat.reduceEqDiff, Nat.reduceSub]
      refine hK _ _ ?_; clear hK hgd; clear K; try clear gd
      have hTE2 := hTE.on hE2
      repeat (with_reducible first | refine W_seq ?_ | refine W_block ?_ | refine W_skip ?_ | refine W_ret ?_ | refine W_exit ?_ | refine thenQ_normal ?_ | refine thenQ_exit ?_ | refine thenQ_ret ?_ | refine blockQ_normal ?_ | refine blockQ_ret ?_ | refine blockQ_same ?_ | refine blockQ_other rfl ?_)
      refine W_reg (by rfl) ?_; intro gd K hgd hK
      have hg5 : ∀ n σ b, wantV gd n σ (some (5, b)) = boolIs (ev n σ (.tmp 217)) b := (fun n σ b => by rw [wantV_some, show gd 5 = some 217 from (by rw [hgd]; rfl)]; rfl); have hg13 : ∀ n σ b, wantV gd n σ (some (13, b)) = boolIs (ev n σ (.tmp 225)) b := (fun n σ b => by rw [wantV_some, show gd 13 = some 225 from (by rw [hgd]; rfl)]; rfl)
      try simp (disch := first | omega | assumption | rfl) only [↓reduceIte, go_sem, Nat.reduceLT, Nat.reduceEqDiff, Nat.reduceSub, h5, h1]
      refine Fn.mono (Has_ok (n := q) hTE2.lies hTE2.ok (hq0.ext (hwE.trans hE2)) hqb (by omega)) ?_
      rintro _ E3 ⟨rfl, hE3⟩
      rw [hQ]
      try simp (disch := first | omega | assumption | rfl) only [↓reduceIte, go_sem, Nat.reduceLT, Nat.reduceEqDiff, Nat.reduceSub, h16, h5, h1, beq_self_eq_true, ↓hg5, ↓hg13]
      refine Fn.mono (Deepest_ok (n := q) (hTE2.on hE3).lies hTE2.ok (hq0.ext ((hwE.trans hE2).trans hE3)) hqb (by omega)) ?_
      rw [hQ, ← hdn]
      rintro dv2 E4 ⟨hd2, hE4⟩
      have hdl : dn.length ≤ 20 := by have := hdeepk.suf.length_le; omega
      have hdb : LB dn := by
        obtain ⟨_, e⟩ := suffix_drop.1 hdeepk.suf
        rw [← e, ← hQ]; exact hqb.fold.drop _
      try simp (disch := first | omega | assumption | rfl) only [↓reduceIte, go_sem, Nat.reduceLT, Nat.reduceEqDiff, Nat.reduceSub, h14, ↓hg5, ↓hg13]
      refine Fn.mono (RSame_ok E4 _ _ dn dn hd2 (hdr.ext (((hEE.trans hE2).trans hE3).trans hE4)) hdb hdb (by omega) (by omega)) ?_
      rintro _ E5 ⟨rfl, hE5⟩
      try simp (disch := first | omega | assumption | rfl) only [↓reduceIte, go_sem, Nat.reduceLT, Nat.reduceEqDiff, Nat.reduceSub, h15, decide_true, ↓hg5, ↓hg13]
      refine hK _ _ ?_; clear hK hgd; clear K; try clear gd
      have hE25 := ((hE2.trans hE3).trans hE4).trans hE5
      have hra5 := fun j h => cellO_ext ((hE3.trans hE4).trans hE5) (hra j h)
      obtain ⟨pa', pc', e, hpc, hpa⟩ := (hko.ext hE25).row
      simp only [List.length_map, Value.slice.injEq, true_and] at e hpc hpa
      obtain ⟨rfl, rfl⟩ := e
      repeat (with_reducible first | refine W_seq ?_ | refine W_block ?_ | refine W_skip ?_ | refine W_ret ?_ | refine W_exit ?_ | refine thenQ_normal ?_ | refine thenQ_exit ?_ | refine thenQ_ret ?_ | refine blockQ_normal ?_ | refine blockQ_ret ?_ | refine blockQ_same ?_ | refine blockQ_other rfl ?_)
      refine W_cond (by simp only [↓reduceIte, go_sem, Nat.reduceLT, Nat.reduceEqDiff, Nat.reduceSub]; rfl) ?_ ?_
      · intro h; simp at h
      intro _
      repeat (with_reducible first | refine W_seq ?_ | refine W_block ?_ | refine W_skip ?_ | refine W_ret ?_ | refine W_exit ?_ | refine thenQ_normal ?_ | refine thenQ_exit ?_ | refine thenQ_ret ?_ | refine blockQ_normal ?_ | refine blockQ_ret ?_ | refine blockQ_same ?_ | refine blockQ_other rfl ?_)
      refine W_reg (by rfl) ?_; intro gd K hgd hK; simp (disch := first | omega | assumption | rfl) only [↓reduceIte, go_sem, Nat.reduceLT, Nat.reduceEqDiff, Nat.reduceSub]; refine hK _ _ ?_; clear hK hgd; clear K gd
      repeat (with_reducible first | refine W_seq ?_ | refine W_block ?_ | refine W_skip ?_ | refine W_ret ?_ | refine W_exit ?_ | refine thenQ_normal ?_ | refine thenQ_exit ?_ | refine thenQ_ret ?_ | refine blockQ_normal ?_ | refine blockQ_ret ?_ | refine blockQ_same ?_ | refine blockQ_other rfl ?_)
      refine W_loop (fun m σ ds G => ds = [] ∧ ∃ (k : Nat), k + m = (kidsOf La Q).length ∧ σ 19 = vi k ∧ σ 18 = .slice ra (kidsOf La Q).length rc ∧ σ 15 = .slice pa (kidsOf La Q).length pc ∧ Ext E5 G) (kidsOf La Q).length ?_ ?_
      · refine ⟨rfl, 0, by omega, ?_, ?_, ?_, Keep.refl _ _⟩
        · simp only [↓reduceIte, go_sem, Nat.reduceLT, Nat.reduceEqDiff, Nat.reduceSub]; rfl
        · simp only [↓reduceIte, go_sem, Nat.reduceLT, Nat.reduceEqDiff, Nat.reduceSub, List.length_map]
        · simp only [↓reduceIte, go_sem, Nat.reduceLT, Nat.reduceEqDiff, Nat.reduceSub, h15]
      clear h1 h5 h6 h14 h15 h16 h17
      rintro m5 σ ds G ⟨rfl, k5, hk5, h19, h18, h15, hEG⟩
      repeat (with_reducible first | refine W_seq ?_ | refine W_block ?_ | refine W_skip ?_ | refine W_ret ?_ | refine W_exit ?_ | refine thenQ_normal ?_ | refine thenQ_exit ?_ | refine thenQ_ret ?_ | refine blockQ_normal ?_ | refine blockQ_ret ?_ | refine blockQ_same ?_ | refine blockQ_other rfl ?_)
      refine W_reg (by rfl) ?_; intro gd K hgd hK; simp (disch := first | omega | assumption | rfl) only [↓reduceIte, go_sem, Nat.reduceLT, Nat.reduceEqDiff, Nat.reduceSub, h19, h18]; refine hK _ _ ?_; clear hK hgd; clear K gd
      repeat (with_reducible first | refine W_seq ?_ | refine W_block ?_ | refine W_skip ?_ | refine W_ret ?_ | refine W_exit ?_ | refine thenQ_normal ?_ | refine thenQ_exit ?_ | refine thenQ_ret ?_ | refine blockQ_normal ?_ | refine blockQ_ret ?_ | refine blockQ_same ?_ | refine blockQ_other rfl ?_)
      refine W_cond (by simp only [↓reduceIte, go_sem, Nat.reduceLT, Nat.reduceEqDiff, Nat.reduceSub]; rfl) ?_ ?_
      · intro hlt
        simp only [decide_eq_true_eq] at hlt
        have hrsa : ra.isSome = true := some_of_cellO (hra5 k5 (by omega))
        have hpsa : pa.isSome = true := some_of_cellO (hpa k5 (by omega))
        obtain ⟨l, hl⟩ : ∃ l, (kidsOf La Q)[k5]'(by omega) = l := ⟨_, rfl⟩
        have hlin : l :: Q ∈ s.names := (hM _).1 (mem_kidsOf.1 (by rw [← hl]; exact List.getElem_mem _))
        have hlb : l.length ≤ 9000000000000000000 := (hdeep _ hlin).2.1 l (List.mem_cons_self ..)
        repeat (with_reducible first | refine W_seq ?_ | refine W_block ?_ | refine W_skip ?_ | refine W_ret ?_ | refine W_exit ?_ | refine thenQ_normal ?_ | refine thenQ_exit ?_ | refine thenQ_ret ?_ | refine blockQ_normal ?_ | refine blockQ_ret ?_ | refine blockQ_same ?_ | refine blockQ_other rfl ?_)
        refine W_drw (fun _ => false) [(0, true), (1, true), (2, true), (3, true), (4, true), (5, true), (6, true), (7, true), (8, false), (9, true)] NoS mixed (by kernel_rfl) ?_; intro gd K x hgd hx hxe hK; clear hxe
        have hrax := fun j h => cellO_ext (hEG.trans hx) (hra5 j h)
        have hpax := fun j h => cellO_ext (hEG.trans hx) (hpa j h)
        simp (disch := first | omega | assumption | rfl) only [↓reduceIte, go_sem, Nat.reduceLT, Nat.reduceEqDiff, Nat.reduceSub, h19, h18, h15, hrax, hpax, List.getElem_map, hl]
        refine Fn.mono (RCompareLabel_ok x l l hlb hlb) ?_
        rintro _ G2 ⟨rfl, hG2⟩
        refine ⟨.inr hG2.keep, ?_⟩
        rw [cmpL_self]
        simp (disch := first | omega | assumption | rfl) only [↓reduceIte, go_sem, Nat.reduceLT, Nat.reduceEqDiff, Nat.reduceSub, decide_true]
        refine hK _ _ ?_; clear hK hgd; clear K; try clear gd
        repeat (with_reducible first | refine W_seq ?_ | refine W_block ?_ | refine W_skip ?_ | refine W_ret ?_ | refine W_exit ?_ | refine thenQ_normal ?_ | refine thenQ_exit ?_ | refine thenQ_ret ?_ | refine blockQ_normal ?_ | refine blockQ_ret ?_ | refine blockQ_same ?_ | refine blockQ_other rfl ?_)
        refine W_cond (by simp only [↓reduceIte, go_sem, Nat.reduceLT, Nat.reduceEqDiff, Nat.reduceSub]; rfl) ?_ ?_
        · intro h; simp at h
        intro _
        repeat (with_reducible first | refine W_seq ?_ | refine W_block ?_ | refine W_skip ?_ | refine W_ret ?_ | refine W_exit ?_ | refine thenQ_normal ?_ | refine thenQ_exit ?_ | refine thenQ_ret ?_ | refine blockQ_normal ?_ | refine blockQ_ret ?_ | refine blockQ_same ?_ | refine blockQ_other rfl ?_)
        refine W_reg (by rfl) ?_; intro gd K hgd hK; simp (disch := first | omega | assumption | rfl) only [↓reduceIte, go_sem, Nat.reduceLT, Nat.reduceEqDiff, Nat.reduceSub, h19]; refine hK _ _ ?_; clear hK hgd; clear K gd
        repeat (with_reducible first | refine W_seq ?_ | refine W_block ?_ | refine W_skip ?_ | refine W_ret ?_ | refine W_exit ?_ | refine thenQ_normal ?_ | refine thenQ_exit ?_ | refine thenQ_ret ?_ | refine blockQ_normal ?_ | refine blockQ_ret ?_ | refine blockQ_same ?_ | refine blockQ_other rfl ?_)
        exact ⟨m5 - 1, by omega, rfl, k5 + 1, by omega, by simp only [↓reduceIte, go_sem, Nat.reduceLT, Nat.reduceEqDiff, Nat.reduceSub]; push_cast; rfl, by simp only [↓reduceIte, go_sem, Nat.reduceLT, Nat.reduceEqDiff, Nat.reduceSub, h18], by simp only [↓reduceIte, go_sem, Nat.reduceLT, Nat.reduceEqDiff, Nat.reduceSub, h15], (hEG.trans hx).trans hG2⟩
      intro _
      repeat (first | (with_reducible first | refine W_seq ?_ | refine W_block ?_ | refine W_skip ?_ | refine W_ret ?_ | refine W_exit ?_ | refine thenQ_normal ?_ | refine thenQ_exit ?_ | refine thenQ_ret ?_ | refine blockQ_normal ?_ | refine blockQ_ret ?_ | refine blockQ_same ?_ | refine blockQ_other rfl ?_) | (refine W_reg (by rfl) ?_; intro gd K hgd hK; simp (disch := first | omega | assumption | rfl) only [↓reduceIte, go_sem, Nat.reduceLT, Nat.reduceEqDiff, Nat.reduceSub]; refine hK _ _ ?_; clear hK hgd; clear K gd))
      refine ret_one (by simp) rfl Try.ntmps3 (by simp only [↓reduceIte, go_sem, Nat.reduceLT, Nat.reduceEqDiff, Nat.reduceSub]; rfl) ?_
      exact ⟨rfl, (hwE.trans hE25).trans hEG⟩
end Go.Proofs.Ytciadbhnodgpgaa
