/-
  The law TreeTurned: the walk.
  Conditions: none.
-/
import Derived.Test.YtciadbhnodgpgaaLK
import Derived.Test.YtciadbhnodgpgaaH1bool
import Derived.Test.YtciadbhnodgpgaaKN
set_option linter.unusedVariables false
set_option linter.unusedSimpArgs false
set_option linter.defProp false
namespace Go.Proofs.Ytciadbhnodgpgaa
open Go Go.Proofs.Ytciadbhnodgpgaa.T_bool
set_option maxRecDepth 10000

theorem turn_hits {n t j : Nat} (hj : j < n) : ∃ k, k < n ∧ (k + t) % n = j := by
  have hr := Nat.mod_lt t (by omega : n > 0)
  have hsplit : ∀ k, (k + t) % n = (k + t % n) % n := fun k => by rw [Nat.add_mod_mod]
  by_cases h : t % n ≤ j
  · refine ⟨j - t % n, by omega, ?_⟩
    rw [hsplit, Nat.sub_add_cancel h, Nat.mod_eq_of_lt hj]
  · refine ⟨j + n - t % n, by omega, ?_⟩
    rw [hsplit, show j + n - t % n + t % n = j + n from by omega, Nat.add_mod_right, Nat.mod_eq_of_lt hj]

theorem tmod_nat (a n : Nat) : ((a : Int)).tmod n = ((a % n : Nat) : Int) := by
  rw [Int.tmod_eq_emod_of_nonneg (by omega)]; rfl

theorem mem_names {z : Value} {s s' : TS} {ps ps' : List (Nm × Value)} (h : Hist z s ps) (h' : Hist z s' ps') (hp : ∀ p ∈ ps, ∃ q ∈ ps', q.1 = p.1) : ∀ g, g ∈ s.names → g ∈ s'.names := fun g hg => by
  rcases (h.names g).1 hg with e | ⟨p, hp', hs⟩
  · exact (h'.names g).2 (.inl e)
  · obtain ⟨q, hq, e⟩ := hp p hp'
    exact (h'.names g).2 (.inr ⟨q, hq, by rw [e]; exact hs⟩)

theorem tturned_ok (w : World) (lv : Value) (L : List Nm) (t : Nat) (hl : NamesAt w lv L) (ht : t ≤ 255) (hb : ∀ n ∈ L, NmOk n) :
    Fn Try.prog 5 #[lv, .int .u8 t] w (fun v w' => v = .bool true ∧ Ext w w') := by
  obtain ⟨vals, ⟨la, lc, rfl, hlc, hla⟩, hvl, hrows⟩ := hl
  refine enter Try.func5 Try.ntmps5 rfl rfl ?_
  repeat (with_reducible first | refine W_seq ?_ | refine W_block ?_ | refine W_skip ?_ | refine W_ret ?_ | refine W_exit ?_ | refine thenQ_normal ?_ | refine thenQ_exit ?_ | refine thenQ_ret ?_ | refine blockQ_normal ?_ | refine blockQ_ret ?_ | refine blockQ_same ?_ | refine blockQ_other rfl ?_)
  refine W_reg (by rfl) ?_; intro gd K hgd hK; simp (disch := first | omega | assumption | rfl) only [↓reduceIte, go_sem, Nat.reduceLT, Nat.reduceEqDiff, Nat.reduceSub]; refine hK _ _ ?_; clear hK hgd; clear K gd
  repeat (with_reducible first | refine W_seq ?_ | refine W_block ?_ | refine W_skip ?_ | refine W_ret ?_ | refine W_exit ?_ | refine thenQ_normal ?_ | refine thenQ_exit ?_ | refine thenQ_ret ?_ | refine blockQ_normal ?_ | refine blockQ_ret ?_ | refine blockQ_same ?_ | refine blockQ_other rfl ?_)
  refine W_reg (by rfl) ?_; intro gd K hgd hK
  try simp (disch := first | omega | assumption | rfl) only [↓reduceIte, go_sem, Nat.reduceLT, Nat.reduceEqDiff, Nat.reduceSub]
  refine Fn.mono (known_ok w) ?_
  rintro _ w2 ⟨rfl, hE2⟩
  try simp (disch := first | omega | assumption | rfl) only [↓reduceIte, go_sem, Nat.reduceLT, Nat.reduceEqDiff, Nat.reduceSub]
  refine hK _ _ ?_; clear hK hgd; clear K; try clear gd
  repeat (with_reducible first | refine W_seq ?_ | refine W_block ?_ | refine W_skip ?_ | refine W_ret ?_ | refine W_exit ?_ | refine thenQ_normal ?_ | refine thenQ_exit ?_ | refine thenQ_ret ?_ | refine blockQ_normal ?_ | refine blockQ_ret ?_ | refine blockQ_same ?_ | refine blockQ_other rfl ?_)
  refine W_cond (by simp only [↓reduceIte, go_sem, Nat.reduceLT, Nat.reduceEqDiff, Nat.reduceSub]; rfl) ?_ ?_
  · intro h; simp at h
  intro _
  repeat (with_reducible first | refine W_seq ?_ | refine W_block ?_ | refine W_skip ?_ | refine W_ret ?_ | refine W_exit ?_ | refine thenQ_normal ?_ | refine thenQ_exit ?_ | refine thenQ_ret ?_ | refine blockQ_normal ?_ | refine blockQ_ret ?_ | refine blockQ_same ?_ | refine blockQ_other rfl ?_)
  refine W_mono (Q := fun e σ' ds' v' => e = .normal ∧ ds' = [] ∧ v' = w2 ∧ σ' 0 = .slice la vals.length lc ∧ σ' 1 = .int .u8 t ∧ ∃ b, σ' 22 = .bool b ∧ (b = false → vals.length ≤ 20 ∧ vals.length ≠ 0)) ?_ ?_
  · refine W_reg (by rfl) ?_; intro gd K hgd hK
    have hg3 : ∀ n σ b, wantV gd n σ (some (3, b)) = boolIs (ev n σ (.tmp 18)) b := (fun n σ b => by rw [wantV_some, show gd 3 = some 18 from (by rw [hgd]; rfl)]; rfl)
    by_cases h20 : (20 : Int) < vals.length
    · try simp (disch := first | omega | assumption | rfl) only [↓reduceIte, go_sem, Nat.reduceLT, Nat.reduceEqDiff, Nat.reduceSub, decide_eq_true h20, ↓hg3]
      refine hK _ _ ?_; clear hK hgd; clear K; try clear gd
      refine ⟨rfl, rfl, rfl, by simp only [↓reduceIte, go_sem, Nat.reduceLT, Nat.reduceEqDiff, Nat.reduceSub], by simp only [↓reduceIte, go_sem, Nat.reduceLT, Nat.reduceEqDiff, Nat.reduceSub], _, by simp only [↓reduceIte, go_sem, Nat.reduceLT, Nat.reduceEqDiff, Nat.reduceSub]; rfl, by simp⟩
    · try simp (disch := first | omega | assumption | rfl) only [↓reduceIte, go_sem, Nat.reduceLT, Nat.reduceEqDiff, Nat.reduceSub, decide_eq_false h20, ↓hg3]
      refine hK _ _ ?_; clear hK hgd; clear K; try clear gd
      refine ⟨rfl, rfl, rfl, by simp only [↓reduceIte, go_sem, Nat.reduceLT, Nat.reduceEqDiff, Nat.reduceSub], by simp only [↓reduceIte, go_sem, Nat.reduceLT, Nat.reduceEqDiff, Nat.reduceSub], _, by simp only [↓reduceIte, go_sem, Nat.reduceLT, Nat.reduceEqDiff, Nat.reduceSub]; rfl, fun h => ⟨by omega, fun h0 => by simp [h0] at h⟩⟩
  rintro _ σ2 _ _ ⟨rfl, rfl, rfl, e0, e1, b, e22, hb22⟩
  repeat (with_reducible first | refine W_seq ?_ | refine W_block ?_ | refine W_skip ?_ | refine W_ret ?_ | refine W_exit ?_ | refine thenQ_normal ?_ | refine thenQ_exit ?_ | refine thenQ_ret ?_ | refine blockQ_normal ?_ | refine blockQ_ret ?_ | refine blockQ_same ?_ | refine blockQ_other rfl ?_)
  refine W_cond (by simp only [↓reduceIte, go_sem, Nat.reduceLT, Nat.reduceEqDiff, Nat.reduceSub, e22]; rfl) ?_ ?_
  · intro _
    repeat (with_reducible first | refine W_seq ?_ | refine W_block ?_ | refine W_skip ?_ | refine W_ret ?_ | refine W_exit ?_ | refine thenQ_normal ?_ | refine thenQ_exit ?_ | refine thenQ_ret ?_ | refine blockQ_normal ?_ | refine blockQ_ret ?_ | refine blockQ_same ?_ | refine blockQ_other rfl ?_)
    refine W_reg (by rfl) ?_; intro gd K hgd hK; simp (disch := first | omega | assumption | rfl) only [↓reduceIte, go_sem, Nat.reduceLT, Nat.reduceEqDiff, Nat.reduceSub]; refine hK _ _ ?_; clear hK hgd; clear K gd
    repeat (with_reducible first | refine W_seq ?_ | refine W_block ?_ | refine W_skip ?_ | refine W_ret ?_ | refine W_exit ?_ | refine thenQ_normal ?_ | refine thenQ_exit ?_ | refine thenQ_ret ?_ | refine blockQ_normal ?_ | refine blockQ_ret ?_ | refine blockQ_same ?_ | refine blockQ_other rfl ?_)
    refine ret_one (by simp) rfl Try.ntmps5 (by simp only [↓reduceIte, go_sem, Nat.reduceLT, Nat.reduceEqDiff, Nat.reduceSub]; rfl) ?_
    exact ⟨rfl, hE2⟩
  intro hbf
  obtain ⟨h20, hne⟩ := hb22 hbf
  repeat (with_reducible first | refine W_seq ?_ | refine W_block ?_ | refine W_skip ?_ | refine W_ret ?_ | refine W_exit ?_ | refine thenQ_normal ?_ | refine thenQ_exit ?_ | refine thenQ_ret ?_ | refine blockQ_normal ?_ | refine blockQ_ret ?_ | refine blockQ_same ?_ | refine blockQ_other rfl ?_)
  refine W_reg (by rfl) ?_; intro gd K hgd hK
  try simp (disch := first | omega | assumption | rfl) only [↓reduceIte, go_sem, Nat.reduceLT, Nat.reduceEqDiff, Nat.reduceSub]
  refine Fn.mono (New_ti w _ hE2) ?_
  rintro _ w3 ⟨hE3, ta, sa0, rfl, hTa0, _⟩
  try simp (disch := first | omega | assumption | rfl) only [↓reduceIte, go_sem, Nat.reduceLT, Nat.reduceEqDiff, Nat.reduceSub]
  refine hK _ _ ?_; clear hK hgd; clear K; try clear gd
  repeat (with_reducible first | refine W_seq ?_ | refine W_block ?_ | refine W_skip ?_ | refine W_ret ?_ | refine W_exit ?_ | refine thenQ_normal ?_ | refine thenQ_exit ?_ | refine thenQ_ret ?_ | refine blockQ_normal ?_ | refine blockQ_ret ?_ | refine blockQ_same ?_ | refine blockQ_other rfl ?_)
  refine W_reg (by rfl) ?_; intro gd K hgd hK
  try simp (disch := first | omega | assumption | rfl) only [↓reduceIte, go_sem, Nat.reduceLT, Nat.reduceEqDiff, Nat.reduceSub]
  refine Fn.mono (New_ti w _ hTa0.ext) ?_
  rintro _ w4 ⟨hE4, tb, sb0, rfl, hTb0, hnew0⟩
  try simp (disch := first | omega | assumption | rfl) only [↓reduceIte, go_sem, Nat.reduceLT, Nat.reduceEqDiff, Nat.reduceSub]
  refine hK _ _ ?_; clear hK hgd; clear K; try clear gd
  have hdis0 : ∀ b, tblk ta sa0 b → ¬ tblk tb sb0 b := fun b h1 h2 => by
    have := hTa0.lt b h1; have := hnew0 b h2; omega
  replace hTa0 := hTa0.on hE4
  repeat (with_reducible first | refine W_seq ?_ | refine W_block ?_ | refine W_skip ?_ | refine W_ret ?_ | refine W_exit ?_ | refine thenQ_normal ?_ | refine thenQ_exit ?_ | refine thenQ_ret ?_ | refine blockQ_normal ?_ | refine blockQ_ret ?_ | refine blockQ_same ?_ | refine blockQ_other rfl ?_)
  refine W_reg (by rfl) ?_; intro gd K hgd hK; simp (disch := first | omega | assumption | rfl) only [↓reduceIte, go_sem, Nat.reduceLT, Nat.reduceEqDiff, Nat.reduceSub]; refine hK _ _ ?_; clear hK hgd; clear K gd
  repeat (with_reducible first | refine W_seq ?_ | refine W_block ?_ | refine W_skip ?_ | refine W_ret ?_ | refine W_exit ?_ | refine thenQ_normal ?_ | refine thenQ_exit ?_ | refine thenQ_ret ?_ | refine blockQ_normal ?_ | refine blockQ_ret ?_ | refine blockQ_same ?_ | refine blockQ_other rfl ?_)
  refine W_loop (fun m σ ds A => ds = [] ∧ ∃ (i : Nat) (sa sb : TS) (pa pb : List (Nm × Value)), i + m = vals.length ∧ σ 7 = vi i ∧ σ 0 = .slice la vals.length lc ∧ σ 1 = .int .u8 t ∧ σ 5 = ptrOf ta ∧ σ 6 = ptrOf tb ∧ TI w A ta sa pa ∧ TI w A tb sb pb ∧ (∀ b, tblk ta sa b → ¬ tblk tb sb b) ∧ shorts 20 pa ∧
    pa.length = i ∧ pb.length = i ∧ (∀ k (h : k < i) (h' : k < pa.length) (h2 : k < L.length), pa[k].1 = L[k]) ∧ (∀ k (h : k < i) (h' : k < pb.length) (h2 : (k + t) % vals.length < L.length), pb[k].1 = L[(k + t) % vals.length])) vals.length ?_ ?_
  · refine ⟨rfl, 0, sa0, sb0, [], [], by omega, ?_, ?_, ?_, ?_, ?_, hTa0, hTb0, hdis0, fun p h => (by cases h), rfl, rfl, fun k h => absurd h (Nat.not_lt_zero _), fun k h => absurd h (Nat.not_lt_zero _)⟩
    · simp only [↓reduceIte, go_sem, Nat.reduceLT, Nat.reduceEqDiff, Nat.reduceSub]; rfl
    · simp only [↓reduceIte, go_sem, Nat.reduceLT, Nat.reduceEqDiff, Nat.reduceSub, e0]
    · simp only [↓reduceIte, go_sem, Nat.reduceLT, Nat.reduceEqDiff, Nat.reduceSub, e1]
    · simp only [↓reduceIte, go_sem, Nat.reduceLT, Nat.reduceEqDiff, Nat.reduceSub]
    · simp only [↓reduceIte, go_sem, Nat.reduceLT, Nat.reduceEqDiff, Nat.reduceSub]
  · rintro m σ ds A ⟨rfl, i, sa, sb, pa, pb, him, h7, h0, h1, h5, h6, hTa, hTb, hdis, hsh, hpal, hpbl, hpa, hpb⟩
    repeat (with_reducible first | refine W_seq ?_ | refine W_block ?_ | refine W_skip ?_ | refine W_ret ?_ | refine W_exit ?_ | refine thenQ_normal ?_ | refine thenQ_exit ?_ | refine thenQ_ret ?_ | refine blockQ_normal ?_ | refine blockQ_ret ?_ | refine blockQ_same ?_ | refine blockQ_other rfl ?_)
    refine W_reg (by rfl) ?_; intro gd K hgd hK; simp (disch := first | omega | assumption | rfl) only [↓reduceIte, go_sem, Nat.reduceLT, Nat.reduceEqDiff, Nat.reduceSub, h7, h0]; refine hK _ _ ?_; clear hK hgd; clear K gd
    repeat (with_reducible first | refine W_seq ?_ | refine W_block ?_ | refine W_skip ?_ | refine W_ret ?_ | refine W_exit ?_ | refine thenQ_normal ?_ | refine thenQ_exit ?_ | refine thenQ_ret ?_ | refine blockQ_normal ?_ | refine blockQ_ret ?_ | refine blockQ_same ?_ | refine blockQ_other rfl ?_)
    refine W_cond (by simp only [↓reduceIte, go_sem, Nat.reduceLT, Nat.reduceEqDiff, Nat.reduceSub]; rfl) ?_ ?_
    · intro hlt
      simp only [decide_eq_true_eq] at hlt
      have hla' := fun j h => cellO_ext hTa.ext (hla j h)
      have hsa : la.isSome = true := some_of_cellO (hla i (by omega))
      have hri := hrows i (by omega) (by omega)
      obtain ⟨ia, ic, hiv, _, _⟩ := id hri
      obtain ⟨g, hg⟩ : ∃ g, L[i]'(by omega) = g := ⟨_, rfl⟩
      rw [hg] at hri hiv
      simp only [List.length_map] at hiv
      rw [hiv] at hri
      repeat (with_reducible first | refine W_seq ?_ | refine W_block ?_ | refine W_skip ?_ | refine W_ret ?_ | refine W_exit ?_ | refine thenQ_normal ?_ | refine thenQ_exit ?_ | refine thenQ_ret ?_ | refine blockQ_normal ?_ | refine blockQ_ret ?_ | refine blockQ_same ?_ | refine blockQ_other rfl ?_)
      refine W_mono (Q := fun e σ' ds' v' => e = .normal ∧ ds' = [] ∧ σ' 0 = σ 0 ∧ σ' 1 = σ 1 ∧ σ' 5 = σ 5 ∧ σ' 6 = σ 6 ∧ σ' 7 = σ 7 ∧ Ext A v' ∧ ∃ b, σ' 44 = .bool b ∧ (b = false → few g = true ∧ g.length ≤ 20)) ?_ ?_
      · refine W_reg (by rfl) ?_; intro gd K hgd hK
        have hg6 : ∀ n σ b, wantV gd n σ (some (6, b)) = boolIs (ev n σ (.tmp 37)) b := (fun n σ b => by rw [wantV_some, show gd 6 = some 37 from (by rw [hgd]; rfl)]; rfl)
        try simp (disch := first | omega | assumption | rfl) only [↓reduceIte, go_sem, Nat.reduceLT, Nat.reduceEqDiff, Nat.reduceSub, h7, h0, hla', hiv]
        refine Fn.mono (Few_ok A _ g (hri.ext hTa.ext)) ?_
        rintro _ w2 ⟨rfl, hE2⟩
        have hla2 := fun j h => cellO_ext hE2 (hla' j h)
        by_cases hfg : few g = true
        · try simp (disch := first | omega | assumption | rfl) only [↓reduceIte, go_sem, Nat.reduceLT, Nat.reduceEqDiff, Nat.reduceSub, h7, h0, hla2, hiv, hfg, ↓hg6]
          refine hK _ _ ?_; clear hK hgd; clear K; try clear gd
          refine ⟨rfl, rfl, by simp only [↓reduceIte, go_sem, Nat.reduceLT, Nat.reduceEqDiff, Nat.reduceSub], by simp only [↓reduceIte, go_sem, Nat.reduceLT, Nat.reduceEqDiff, Nat.reduceSub], by simp only [↓reduceIte, go_sem, Nat.reduceLT, Nat.reduceEqDiff, Nat.reduceSub], by simp only [↓reduceIte, go_sem, Nat.reduceLT, Nat.reduceEqDiff, Nat.reduceSub], by simp only [↓reduceIte, go_sem, Nat.reduceLT, Nat.reduceEqDiff, Nat.reduceSub, h7], hE2, _, by simp only [↓reduceIte, go_sem, Nat.reduceLT, Nat.reduceEqDiff, Nat.reduceSub]; rfl, fun h => ⟨hfg, by simp at h; omega⟩⟩
        · rw [Bool.not_eq_true] at hfg
          try simp (disch := first | omega | assumption | rfl) only [↓reduceIte, go_sem, Nat.reduceLT, Nat.reduceEqDiff, Nat.reduceSub, hfg, ↓hg6]
          refine hK _ _ ?_; clear hK hgd; clear K; try clear gd
          refine ⟨rfl, rfl, by simp only [↓reduceIte, go_sem, Nat.reduceLT, Nat.reduceEqDiff, Nat.reduceSub], by simp only [↓reduceIte, go_sem, Nat.reduceLT, Nat.reduceEqDiff, Nat.reduceSub], by simp only [↓reduceIte, go_sem, Nat.reduceLT, Nat.reduceEqDiff, Nat.reduceSub], by simp only [↓reduceIte, go_sem, Nat.reduceLT, Nat.reduceEqDiff, Nat.reduceSub], by simp only [↓reduceIte, go_sem, Nat.reduceLT, Nat.reduceEqDiff, Nat.reduceSub, h7], hE2, _, by simp only [↓reduceIte, go_sem, Nat.reduceLT, Nat.reduceEqDiff, Nat.reduceSub]; rfl, fun h => by simp at h⟩
      · rintro _ σ9 _ w9 ⟨rfl, rfl, f0, f1, f5, f6, f7, hE9, b, f44, hbg⟩
        repeat (with_reducible first | refine W_seq ?_ | refine W_block ?_ | refine W_skip ?_ | refine W_ret ?_ | refine W_exit ?_ | refine thenQ_normal ?_ | refine thenQ_exit ?_ | refine thenQ_ret ?_ | refine blockQ_normal ?_ | refine blockQ_ret ?_ | refine blockQ_same ?_ | refine blockQ_other rfl ?_)
        refine W_cond (by simp only [↓reduceIte, go_sem, Nat.reduceLT, Nat.reduceEqDiff, Nat.reduceSub, f44]; rfl) ?_ ?_
        · intro _
          repeat (with_reducible first | refine W_seq ?_ | refine W_block ?_ | refine W_skip ?_ | refine W_ret ?_ | refine W_exit ?_ | refine thenQ_normal ?_ | refine thenQ_exit ?_ | refine thenQ_ret ?_ | refine blockQ_normal ?_ | refine blockQ_ret ?_ | refine blockQ_same ?_ | refine blockQ_other rfl ?_)
          refine W_reg (by rfl) ?_; intro gd K hgd hK; simp (disch := first | omega | assumption | rfl) only [↓reduceIte, go_sem, Nat.reduceLT, Nat.reduceEqDiff, Nat.reduceSub]; refine hK _ _ ?_; clear hK hgd; clear K gd
          repeat (with_reducible first | refine W_seq ?_ | refine W_block ?_ | refine W_skip ?_ | refine W_ret ?_ | refine W_exit ?_ | refine thenQ_normal ?_ | refine thenQ_exit ?_ | refine thenQ_ret ?_ | refine blockQ_normal ?_ | refine blockQ_ret ?_ | refine blockQ_same ?_ | refine blockQ_other rfl ?_)
          refine ret_one (by simp) rfl Try.ntmps5 (by simp only [↓reduceIte, go_sem, Nat.reduceLT, Nat.reduceEqDiff, Nat.reduceSub]; rfl) ?_
          exact ⟨rfl, hTa.ext.trans hE9⟩
        · intro hbf
          obtain ⟨hgf, hgl⟩ := hbg hbf
          have hTa9 := hTa.on hE9
          have hTb9 := hTb.on hE9
          have hla9 := fun j h => cellO_ext hTa9.ext (hla j h)
          rw [h0] at f0; rw [h1] at f1; rw [h5] at f5; rw [h6] at f6; rw [h7] at f7
          repeat (with_reducible first | refine W_seq ?_ | refine W_block ?_ | refine W_skip ?_ | refine W_ret ?_ | refine W_exit ?_ | refine thenQ_normal ?_ | refine thenQ_exit ?_ | refine thenQ_ret ?_ | refine blockQ_normal ?_ | refine blockQ_ret ?_ | refine blockQ_same ?_ | refine blockQ_other rfl ?_)
          refine W_reg (by rfl) ?_; intro gd K hgd hK
          try simp (disch := first | omega | assumption | rfl) only [↓reduceIte, go_sem, Nat.reduceLT, Nat.reduceEqDiff, Nat.reduceSub, f7, f0, f5, hla9, hiv]
          refine Fn.mono (Put_ti (n := g) (v := .bool true) hTa9 (hTa9.still hri) (few_lb hgf) (by omega) rfl) ?_
          rintro _ w10 ⟨sa', hTa', hka, hba⟩
          try simp (disch := first | omega | assumption | rfl) only [↓reduceIte, go_sem, Nat.reduceLT, Nat.reduceEqDiff, Nat.reduceSub]
          refine hK _ _ ?_; clear hK hgd; clear K; try clear gd
          have hTb' := hTb9.other hka (fun b h1 h2 => hdis b h2 h1) hTa'.ext
          have hdis' : ∀ b, tblk ta sa' b → ¬ tblk tb sb b := fun b h1 h2 => by
            rcases hba b h1 with h | h
            · exact hdis b h h2
            · have := hTb9.lt b h2; omega
          -- the other one
          have hmod := tmod_nat (i + t) vals.length
          have hcast : ((i + t : Nat) : Int) = (i : Int) + t := by push_cast; rfl
          rw [hcast] at hmod
          have hjl := Nat.mod_lt (i + t) (by omega : vals.length > 0)
          obtain ⟨j, hj⟩ : ∃ j, (i + t) % vals.length = j := ⟨_, rfl⟩
          rw [hj] at hmod hjl
          have hrj := hrows j (by omega) (by omega)
          obtain ⟨ja, jc, hjv, _, _⟩ := id hrj
          obtain ⟨f, hf⟩ : ∃ f, L[j]'(by omega) = f := ⟨_, rfl⟩
          rw [hf] at hrj hjv
          simp only [List.length_map] at hjv
          rw [hjv] at hrj
          have hfok : NmOk f := hb f (by rw [← hf]; exact List.getElem_mem _)
          have hla10 := fun j h => cellO_ext hTa'.ext (hla j h)
          have hvz : ¬ (vals.length : Int) = 0 := by omega
          repeat (with_reducible first | refine W_seq ?_ | refine W_block ?_ | refine W_skip ?_ | refine W_ret ?_ | refine W_exit ?_ | refine thenQ_normal ?_ | refine thenQ_exit ?_ | refine thenQ_ret ?_ | refine blockQ_normal ?_ | refine blockQ_ret ?_ | refine blockQ_same ?_ | refine blockQ_other rfl ?_)
          refine W_reg (by rfl) ?_; intro gd K hgd hK
          try simp (disch := first | omega | assumption | rfl) only [↓reduceIte, go_sem, Nat.reduceLT, Nat.reduceEqDiff, Nat.reduceSub, f7, f0, f1, f6, hmod, hla10, hjv]
          refine Fn.mono (Put_ti (n := f) (v := .bool true) hTb' (hTb'.still hrj) hfok.lb (by have := hfok.len; omega) rfl) ?_
          rintro _ w11 ⟨sb', hTb'', hkb, hbb⟩
          try simp (disch := first | omega | assumption | rfl) only [↓reduceIte, go_sem, Nat.reduceLT, Nat.reduceEqDiff, Nat.reduceSub]
          refine hK _ _ ?_; clear hK hgd; clear K; try clear gd
          have hTa'' := hTa'.other hkb hdis' hTb''.ext
          have hdis'' : ∀ b, tblk ta sa' b → ¬ tblk tb sb' b := fun b h1 h2 => by
            rcases hbb b h2 with h | h
            · exact hdis' b h1 h
            · have := hTa'.lt b h1; omega
          repeat (with_reducible first | refine W_seq ?_ | refine W_block ?_ | refine W_skip ?_ | refine W_ret ?_ | refine W_exit ?_ | refine thenQ_normal ?_ | refine thenQ_exit ?_ | refine thenQ_ret ?_ | refine blockQ_normal ?_ | refine blockQ_ret ?_ | refine blockQ_same ?_ | refine blockQ_other rfl ?_)
          refine W_reg (by rfl) ?_; intro gd K hgd hK; simp (disch := first | omega | assumption | rfl) only [↓reduceIte, go_sem, Nat.reduceLT, Nat.reduceEqDiff, Nat.reduceSub, f7]; refine hK _ _ ?_; clear hK hgd; clear K gd
          repeat (with_reducible first | refine W_seq ?_ | refine W_block ?_ | refine W_skip ?_ | refine W_ret ?_ | refine W_exit ?_ | refine thenQ_normal ?_ | refine thenQ_exit ?_ | refine thenQ_ret ?_ | refine blockQ_normal ?_ | refine blockQ_ret ?_ | refine blockQ_same ?_ | refine blockQ_other rfl ?_)
          refine ⟨m - 1, by omega, rfl, i + 1, sa', sb', _, _, by omega, by simp only [↓reduceIte, go_sem, Nat.reduceLT, Nat.reduceEqDiff, Nat.reduceSub]; push_cast; rfl, by simp only [↓reduceIte, go_sem, Nat.reduceLT, Nat.reduceEqDiff, Nat.reduceSub, f0], by simp only [↓reduceIte, go_sem, Nat.reduceLT, Nat.reduceEqDiff, Nat.reduceSub, f1], by simp only [↓reduceIte, go_sem, Nat.reduceLT, Nat.reduceEqDiff, Nat.reduceSub, f5], by simp only [↓reduceIte, go_sem, Nat.reduceLT, Nat.reduceEqDiff, Nat.reduceSub, f6], hTa'', hTb'', hdis'', fun p hp => ?_, by simp [hpal], by simp [hpbl], fun k hk h' h2 => ?_, fun k hk h' h2 => ?_⟩
          · rcases List.mem_append.1 hp with hp | hp
            · exact hsh p hp
            · rw [List.mem_singleton.1 hp]; exact ⟨few_lb hgf, hgl⟩
          · by_cases hki : k < i
            · rw [List.getElem_append_left (by omega)]; exact hpa k hki (by omega) h2
            · have : k = i := by omega
              subst this
              rw [List.getElem_append_right (by omega)]
              simp only [hpal, Nat.sub_self, List.getElem_cons_zero]; exact hg.symm
          · by_cases hki : k < i
            · rw [List.getElem_append_left (by omega)]; exact hpb k hki (by omega) h2
            · have : k = i := by omega
              subst this
              rw [List.getElem_append_right (by omega)]
              simp only [hpbl, Nat.sub_self, List.getElem_cons_zero]
              rw [← hf]; congr 1; exact hj.symm
    · intro hge
      simp only [decide_eq_false_iff_not] at hge
      have hin : i = vals.length := by omega
      subst hin
      have hLs : ∀ k (h : k < L.length), LB L[k] ∧ L[k].length ≤ 20 := fun k h => by
        have h1 := hpa k (by omega) (by omega) h
        have h2 := hsh (pa[k]'(by omega)) (List.getElem_mem _)
        rw [h1] at h2; exact h2
      have hshb : shorts 20 pb := fun p hp => by
        obtain ⟨k, hk, rfl⟩ := List.getElem_of_mem hp
        have hm := Nat.mod_lt (k + t) (by omega : vals.length > 0)
        rw [hpb k (by omega) hk (by omega)]
        exact hLs _ _
      have hab : ∀ p ∈ pa, ∃ q ∈ pb, q.1 = p.1 := fun p hp => by
        obtain ⟨k, hk, rfl⟩ := List.getElem_of_mem hp
        obtain ⟨j, hj, he⟩ := turn_hits (n := vals.length) (t := t) (j := k) (by omega)
        refine ⟨pb[j]'(by omega), List.getElem_mem _, ?_⟩
        rw [hpb j hj (by omega) (by omega), hpa k (by omega) hk (by omega)]
        congr 1
      have hba : ∀ p ∈ pb, ∃ q ∈ pa, q.1 = p.1 := fun p hp => by
        obtain ⟨k, hk, rfl⟩ := List.getElem_of_mem hp
        have hm := Nat.mod_lt (k + t) (by omega : vals.length > 0)
        refine ⟨pa[(k + t) % vals.length]'(by omega), List.getElem_mem _, ?_⟩
        rw [hpb k (by omega) hk (by omega), hpa _ (by omega) (by omega) (by omega)]
      have hmem : ∀ g, g ∈ sa.names ↔ g ∈ sb.names := fun g => ⟨mem_names hTa.hist hTb.hist hab g, mem_names hTb.hist hTa.hist hba g⟩
      repeat (with_reducible first | refine W_seq ?_ | refine W_block ?_ | refine W_skip ?_ | refine W_ret ?_ | refine W_exit ?_ | refine thenQ_normal ?_ | refine thenQ_exit ?_ | refine thenQ_ret ?_ | refine blockQ_normal ?_ | refine blockQ_ret ?_ | refine blockQ_same ?_ | refine blockQ_other rfl ?_)
      refine W_reg (by rfl) ?_; intro gd K hgd hK
      try simp (disch := first | omega | assumption | rfl) only [↓reduceIte, go_sem, Nat.reduceLT, Nat.reduceEqDiff, Nat.reduceSub, h5]
      refine Fn.mono (Names_ti hTa hsh (by decide) (by omega)) ?_
      rintro nv5 w5 ⟨hE5, La, hNa, hRa, hMa, hLa⟩
      try simp (disch := first | omega | assumption | rfl) only [↓reduceIte, go_sem, Nat.reduceLT, Nat.reduceEqDiff, Nat.reduceSub]
      refine hK _ _ ?_; clear hK hgd; clear K; try clear gd
      repeat (with_reducible first | refine W_seq ?_ | refine W_block ?_ | refine W_skip ?_ | refine W_ret ?_ | refine W_exit ?_ | refine thenQ_normal ?_ | refine thenQ_exit ?_ | refine thenQ_ret ?_ | refine blockQ_normal ?_ | refine blockQ_ret ?_ | refine blockQ_same ?_ | refine blockQ_other rfl ?_)
      refine W_reg (by rfl) ?_; intro gd K hgd hK
      try simp (disch := first | omega | assumption | rfl) only [↓reduceIte, go_sem, Nat.reduceLT, Nat.reduceEqDiff, Nat.reduceSub, h6]
      refine Fn.mono (Names_ti (hTb.on hE5) hshb (by decide) (by omega)) ?_
      rintro nv6 w6 ⟨hE6, Lb, hNb, hRb, hMb, hLb⟩
      try simp (disch := first | omega | assumption | rfl) only [↓reduceIte, go_sem, Nat.reduceLT, Nat.reduceEqDiff, Nat.reduceSub]
      refine hK _ _ ?_; clear hK hgd; clear K; try clear gd
      have hLL : Lb = La := hRb.eq hRa (fun g => by rw [hMb, hMa, hmem])
      subst hLL
      replace hNa := hNa.ext hE6
      obtain ⟨xs, ⟨xa, xc, rfl, hxc, hxa⟩, hxl, hxr⟩ := hNa
      obtain ⟨ys, ⟨ya, yc, rfl, hyc, hya⟩, hyl, hyr⟩ := hNb
      have hxy : xs.length = ys.length := by omega
      have hysl : ys.length ≤ 1002001 := by have := hTa.lens hsh (by decide) (by omega); omega
      have hTa6 := (hTa.on hE5).on hE6
      have hTb6 := (hTb.on hE5).on hE6
      repeat (with_reducible first | refine W_seq ?_ | refine W_block ?_ | refine W_skip ?_ | refine W_ret ?_ | refine W_exit ?_ | refine thenQ_normal ?_ | refine thenQ_exit ?_ | refine thenQ_ret ?_ | refine blockQ_normal ?_ | refine blockQ_ret ?_ | refine blockQ_same ?_ | refine blockQ_other rfl ?_)
      refine W_reg (by rfl) ?_; intro gd K hgd hK
      have hg5 : ∀ n σ b, wantV gd n σ (some (5, b)) = boolIs (ev n σ (.tmp 72)) b := (fun n σ b => by rw [wantV_some, show gd 5 = some 72 from (by rw [hgd]; rfl)]; rfl)
      try simp (disch := first | omega | assumption | rfl) only [↓reduceIte, go_sem, Nat.reduceLT, Nat.reduceEqDiff, Nat.reduceSub, hxy, h5, decide_true, ↓hg5]
      refine Fn.mono (Len_ok hTa6.lies) ?_
      rintro _ w7 ⟨rfl, hE7⟩
      have hwr : IntKind.i64.wrap (sa.names.length : Int) = (ys.length : Int) := by
        have := hTa.lens hsh (by decide) (by omega)
        rw [wrap64 (by omega) (by omega)]; omega
      rw [hwr]
      try simp (disch := first | omega | assumption | rfl) only [↓reduceIte, go_sem, Nat.reduceLT, Nat.reduceEqDiff, Nat.reduceSub, hxy, decide_true, ↓hg5]
      refine hK _ _ ?_; clear hK hgd; clear K; try clear gd
      repeat (with_reducible first | refine W_seq ?_ | refine W_block ?_ | refine W_skip ?_ | refine W_ret ?_ | refine W_exit ?_ | refine thenQ_normal ?_ | refine thenQ_exit ?_ | refine thenQ_ret ?_ | refine blockQ_normal ?_ | refine blockQ_ret ?_ | refine blockQ_same ?_ | refine blockQ_other rfl ?_)
      refine W_cond (by simp only [↓reduceIte, go_sem, Nat.reduceLT, Nat.reduceEqDiff, Nat.reduceSub]; rfl) ?_ ?_
      · intro h; simp at h
      intro _
      repeat (with_reducible first | refine W_seq ?_ | refine W_block ?_ | refine W_skip ?_ | refine W_ret ?_ | refine W_exit ?_ | refine thenQ_normal ?_ | refine thenQ_exit ?_ | refine thenQ_ret ?_ | refine blockQ_normal ?_ | refine blockQ_ret ?_ | refine blockQ_same ?_ | refine blockQ_other rfl ?_)
      refine W_reg (by rfl) ?_; intro gd K hgd hK; simp (disch := first | omega | assumption | rfl) only [↓reduceIte, go_sem, Nat.reduceLT, Nat.reduceEqDiff, Nat.reduceSub]; refine hK _ _ ?_; clear hK hgd; clear K gd
      repeat (with_reducible first | refine W_seq ?_ | refine W_block ?_ | refine W_skip ?_ | refine W_ret ?_ | refine W_exit ?_ | refine thenQ_normal ?_ | refine thenQ_exit ?_ | refine thenQ_ret ?_ | refine blockQ_normal ?_ | refine blockQ_ret ?_ | refine blockQ_same ?_ | refine blockQ_other rfl ?_)
      refine W_loop (fun m σ ds B => ds = [] ∧ ∃ (k : Nat), k + m = ys.length ∧ σ 10 = vi k ∧ σ 8 = .slice xa ys.length xc ∧ σ 9 = .slice ya ys.length yc ∧ σ 5 = ptrOf ta ∧ σ 6 = ptrOf tb ∧ Ext w7 B) ys.length ?_ ?_
      · refine ⟨rfl, 0, by omega, ?_, ?_, ?_, ?_, ?_, Keep.refl _ _⟩
        · simp only [↓reduceIte, go_sem, Nat.reduceLT, Nat.reduceEqDiff, Nat.reduceSub]; rfl
        · simp only [↓reduceIte, go_sem, Nat.reduceLT, Nat.reduceEqDiff, Nat.reduceSub, hxy]
        · simp only [↓reduceIte, go_sem, Nat.reduceLT, Nat.reduceEqDiff, Nat.reduceSub]
        · simp only [↓reduceIte, go_sem, Nat.reduceLT, Nat.reduceEqDiff, Nat.reduceSub, h5]
        · simp only [↓reduceIte, go_sem, Nat.reduceLT, Nat.reduceEqDiff, Nat.reduceSub, h6]
      · clear h0 h1 h5 h6 h7
        rintro mi σ ds B ⟨rfl, k, hkm, h10, h8, h9, h5, h6, hEB⟩
        have hE6B := hE7.trans hEB
        repeat (with_reducible first | refine W_seq ?_ | refine W_block ?_ | refine W_skip ?_ | refine W_ret ?_ | refine W_exit ?_ | refine thenQ_normal ?_ | refine thenQ_exit ?_ | refine thenQ_ret ?_ | refine blockQ_normal ?_ | refine blockQ_ret ?_ | refine blockQ_same ?_ | refine blockQ_other rfl ?_)
        refine W_reg (by rfl) ?_; intro gd K hgd hK; simp (disch := first | omega | assumption | rfl) only [↓reduceIte, go_sem, Nat.reduceLT, Nat.reduceEqDiff, Nat.reduceSub, h10, h8]; refine hK _ _ ?_; clear hK hgd; clear K gd
        repeat (with_reducible first | refine W_seq ?_ | refine W_block ?_ | refine W_skip ?_ | refine W_ret ?_ | refine W_exit ?_ | refine thenQ_normal ?_ | refine thenQ_exit ?_ | refine thenQ_ret ?_ | refine blockQ_normal ?_ | refine blockQ_ret ?_ | refine blockQ_same ?_ | refine blockQ_other rfl ?_)
        refine W_cond (by simp only [↓reduceIte, go_sem, Nat.reduceLT, Nat.reduceEqDiff, Nat.reduceSub]; rfl) ?_ ?_
        · intro hlt
          simp only [decide_eq_true_eq] at hlt
          have hxsa : xa.isSome = true := some_of_cellO (hxa k (by omega))
          have hysa : ya.isSome = true := some_of_cellO (hya k (by omega))
          have hxk := hxr k (by omega) (by omega)
          have hyk := hyr k (by omega) (by omega)
          obtain ⟨g, hg⟩ : ∃ g, Lb[k]'(by omega) = g := ⟨_, rfl⟩
          rw [hg] at hxk hyk
          have hgin : g ∈ sa.names := (hMa g).1 (by rw [← hg]; exact List.getElem_mem _)
          obtain ⟨hgl, hgb, hgf⟩ := hTa.hist.deep hsh g hgin
          obtain ⟨ka, kc, hkv, _, _⟩ := id hxk
          obtain ⟨ma, mc, hmv, _, _⟩ := id hyk
          simp only [List.length_map] at hkv hmv
          rw [hkv] at hxk
          rw [hmv] at hyk
          repeat (with_reducible first | refine W_seq ?_ | refine W_block ?_ | refine W_skip ?_ | refine W_ret ?_ | refine W_exit ?_ | refine thenQ_normal ?_ | refine thenQ_exit ?_ | refine thenQ_ret ?_ | refine blockQ_normal ?_ | refine blockQ_ret ?_ | refine blockQ_same ?_ | refine blockQ_other rfl ?_)
          refine W_drw (fun _ => false) [(0, true), (1, true), (2, true), (3, true), (4, true), (5, true), (6, true), (7, true), (8, false), (9, true)] NoS mixed (by kernel_rfl) ?_; intro gd K x hgd hx hxe hK; clear hxe
          have hE6x := hE6B.trans hx
          have hxax := fun j h => cellO_ext hE6x (hxa j h)
          have hyax := fun j h => cellO_ext hE6x (hya j h)
          simp (disch := first | omega | assumption | rfl) only [↓reduceIte, go_sem, Nat.reduceLT, Nat.reduceEqDiff, Nat.reduceSub, h10, h8, h9, hxax, hyax, hkv, hmv]
          refine Fn.mono (RSame_ok x _ _ g g (hxk.ext hE6x) (hyk.ext hE6x) hgb hgb (by omega) (by omega)) ?_
          rintro _ w10 ⟨rfl, hE10⟩
          refine ⟨.inr hE10.keep, ?_⟩
          simp (disch := first | omega | assumption | rfl) only [↓reduceIte, go_sem, Nat.reduceLT, Nat.reduceEqDiff, Nat.reduceSub, decide_true]
          refine hK _ _ ?_; clear hK hgd; clear K; try clear gd
          have hE6y := hE6x.trans hE10
          have hTay := hTa6.on hE6y
          have hxay := fun j h => cellO_ext hE6y (hxa j h)
          repeat (with_reducible first | refine W_seq ?_ | refine W_block ?_ | refine W_skip ?_ | refine W_ret ?_ | refine W_exit ?_ | refine thenQ_normal ?_ | refine thenQ_exit ?_ | refine thenQ_ret ?_ | refine blockQ_normal ?_ | refine blockQ_ret ?_ | refine blockQ_same ?_ | refine blockQ_other rfl ?_)
          refine W_cond (by simp only [↓reduceIte, go_sem, Nat.reduceLT, Nat.reduceEqDiff, Nat.reduceSub]; rfl) ?_ ?_
          · intro h; simp at h
          intro _
          repeat (with_reducible first | refine W_seq ?_ | refine W_block ?_ | refine W_skip ?_ | refine W_ret ?_ | refine W_exit ?_ | refine thenQ_normal ?_ | refine thenQ_exit ?_ | refine thenQ_ret ?_ | refine blockQ_normal ?_ | refine blockQ_ret ?_ | refine blockQ_same ?_ | refine blockQ_other rfl ?_)
          refine W_reg (by rfl) ?_; intro gd K hgd hK
          try simp (disch := first | omega | assumption | rfl) only [↓reduceIte, go_sem, Nat.reduceLT, Nat.reduceEqDiff, Nat.reduceSub, h5, h8, h10, hxay, hkv]
          refine Fn.mono (Kids_ok (n := g) hTay.lies hTay.ok (hTay.small hsh (by decide) (by omega)) (hxk.ext hE6y) hgb (by omega)) ?_
          rintro kv1 w11 ⟨⟨k1a, k1c, rfl, _, _⟩, hE11⟩
          try simp (disch := first | omega | assumption | rfl) only [↓reduceIte, go_sem, Nat.reduceLT, Nat.reduceEqDiff, Nat.reduceSub]
          refine hK _ _ ?_; clear hK hgd; clear K; try clear gd
          have hE6z := hE6y.trans hE11
          have hTbz := hTb6.on hE6z
          have hxaz := fun j h => cellO_ext hE6z (hxa j h)
          repeat (with_reducible first | refine W_seq ?_ | refine W_block ?_ | refine W_skip ?_ | refine W_ret ?_ | refine W_exit ?_ | refine thenQ_normal ?_ | refine thenQ_exit ?_ | refine thenQ_ret ?_ | refine blockQ_normal ?_ | refine blockQ_ret ?_ | refine blockQ_same ?_ | refine blockQ_other rfl ?_)
          refine W_reg (by rfl) ?_; intro gd K hgd hK
          try simp (disch := first | omega | assumption | rfl) only [↓reduceIte, go_sem, Nat.reduceLT, Nat.reduceEqDiff, Nat.reduceSub, h6, h8, h10, hxaz, hkv]
          refine Fn.mono (Kids_ok (n := g) hTbz.lies hTbz.ok (hTbz.small hshb (by decide) (by omega)) (hxk.ext hE6z) hgb (by omega)) ?_
          rintro kv2 w12 ⟨⟨k2a, k2c, rfl, _, _⟩, hE12⟩
          try simp (disch := first | omega | assumption | rfl) only [↓reduceIte, go_sem, Nat.reduceLT, Nat.reduceEqDiff, Nat.reduceSub]
          refine hK _ _ ?_; clear hK hgd; clear K; try clear gd
          have hkk : sortK (kidsOf sa.names (foldN g)) = sortK (kidsOf sb.names (foldN g)) :=
            sortK_congr ((List.perm_ext_iff_of_nodup (kidsOf_nd hTa.ok.nd _) (kidsOf_nd hTb.ok.nd _)).2 fun l => by rw [mem_kidsOf, mem_kidsOf, hmem])
          rw [hkk]
          repeat (with_reducible first | refine W_seq ?_ | refine W_block ?_ | refine W_skip ?_ | refine W_ret ?_ | refine W_exit ?_ | refine thenQ_normal ?_ | refine thenQ_exit ?_ | refine thenQ_ret ?_ | refine blockQ_normal ?_ | refine blockQ_ret ?_ | refine blockQ_same ?_ | refine blockQ_other rfl ?_)
          refine W_reg (by rfl) ?_; intro gd K hgd hK; simp (disch := first | omega | assumption | rfl) only [↓reduceIte, go_sem, Nat.reduceLT, Nat.reduceEqDiff, Nat.reduceSub, decide_true]; refine hK _ _ ?_; clear hK hgd; clear K gd
          repeat (with_reducible first | refine W_seq ?_ | refine W_block ?_ | refine W_skip ?_ | refine W_ret ?_ | refine W_exit ?_ | refine thenQ_normal ?_ | refine thenQ_exit ?_ | refine thenQ_ret ?_ | refine blockQ_normal ?_ | refine blockQ_ret ?_ | refine blockQ_same ?_ | refine blockQ_other rfl ?_)
          refine W_cond (by simp only [↓reduceIte, go_sem, Nat.reduceLT, Nat.reduceEqDiff, Nat.reduceSub]; rfl) ?_ ?_
          · intro h; simp at h
          intro _
          repeat (with_reducible first | refine W_seq ?_ | refine W_block ?_ | refine W_skip ?_ | refine W_ret ?_ | refine W_exit ?_ | refine thenQ_normal ?_ | refine thenQ_exit ?_ | refine thenQ_ret ?_ | refine blockQ_normal ?_ | refine blockQ_ret ?_ | refine blockQ_same ?_ | refine blockQ_other rfl ?_)
          refine W_reg (by rfl) ?_; intro gd K hgd hK; simp (disch := first | omega | assumption | rfl) only [↓reduceIte, go_sem, Nat.reduceLT, Nat.reduceEqDiff, Nat.reduceSub, h10]; refine hK _ _ ?_; clear hK hgd; clear K gd
          repeat (with_reducible first | refine W_seq ?_ | refine W_block ?_ | refine W_skip ?_ | refine W_ret ?_ | refine W_exit ?_ | refine thenQ_normal ?_ | refine thenQ_exit ?_ | refine thenQ_ret ?_ | refine blockQ_normal ?_ | refine blockQ_ret ?_ | refine blockQ_same ?_ | refine blockQ_other rfl ?_)
          exact ⟨mi - 1, by omega, rfl, k + 1, by omega, by simp only [↓reduceIte, go_sem, Nat.reduceLT, Nat.reduceEqDiff, Nat.reduceSub]; push_cast; rfl, by simp only [↓reduceIte, go_sem, Nat.reduceLT, Nat.reduceEqDiff, Nat.reduceSub, h8], by simp only [↓reduceIte, go_sem, Nat.reduceLT, Nat.reduceEqDiff, Nat.reduceSub, h9], by simp only [↓reduceIte, go_sem, Nat.reduceLT, Nat.reduceEqDiff, Nat.reduceSub, h5], by simp only [↓reduceIte, go_sem, Nat.reduceLT, Nat.reduceEqDiff, Nat.reduceSub, h6], (((hEB.trans hx).trans hE10).trans hE11).trans hE12⟩
        · intro hge2
          repeat (first | (with_reducible first | refine W_seq ?_ | refine W_block ?_ | refine W_skip ?_ | refine W_ret ?_ | refine W_exit ?_ | refine thenQ_normal ?_ | refine thenQ_exit ?_ | refine thenQ_ret ?_ | refine blockQ_normal ?_ | refine blockQ_ret ?_ | refine blockQ_same ?_ | refine blockQ_other rfl ?_) | (refine W_reg (by rfl) ?_; intro gd K hgd hK; simp (disch := first | omega | assumption | rfl) only [↓reduceIte, go_sem, Nat.reduceLT, Nat.reduceEqDiff, Nat.reduceSub]; refine hK _ _ ?_; clear hK hgd; clear K gd))
          refine ret_one (by simp) rfl Try.ntmps5 (by simp only [↓reduceIte, go_sem, Nat.reduceLT, Nat.reduceEqDiff, Nat.reduceSub]; rfl) ?_
          exact ⟨rfl, hTa6.ext.trans hE6B⟩
end Go.Proofs.Ytciadbhnodgpgaa
