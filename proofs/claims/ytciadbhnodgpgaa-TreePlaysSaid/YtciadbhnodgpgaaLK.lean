/-
  The laws' own check: known.
  Conditions: none.
-/
import Derived.Test.YtciadbhnodgpgaaH1int
set_option linter.unusedVariables false
set_option linter.unusedSimpArgs false
set_option linter.defProp false
namespace Go.Proofs.Ytciadbhnodgpgaa
open Go Go.Proofs.Ytciadbhnodgpgaa.T_int
set_option maxRecDepth 10000

theorem shorts_one {k : Nat} {n : Nm} {v : Value} (h1 : LB n) (h2 : n.length ≤ k) : shorts k [(n, v)] := fun p hp => by
  rw [List.mem_singleton.1 hp]; exact ⟨h1, h2⟩
theorem lb_small {n : Nm} (h : ∀ l ∈ n, l.length ≤ 100) : LB n := fun l hl => by have := h l hl; omega

theorem known_ok (w : World) : Fn Try.prog 7 #[] w (fun v w' => v = .bool true ∧ Ext w w') := by
  refine enter Try.func7 Try.ntmps7 rfl rfl ?_
  repeat (with_reducible first | refine W_seq ?_ | refine W_block ?_ | refine W_skip ?_ | refine W_ret ?_ | refine W_exit ?_ | refine thenQ_normal ?_ | refine thenQ_exit ?_ | refine thenQ_ret ?_ | refine blockQ_normal ?_ | refine blockQ_ret ?_ | refine blockQ_same ?_ | refine blockQ_other rfl ?_)
  refine W_reg (by rfl) ?_; intro gd K hgd hK; simp (disch := first | omega | assumption | rfl) only [↓reduceIte, go_sem, Nat.reduceLT, Nat.reduceEqDiff, Nat.reduceSub]; refine hK _ _ ?_; clear hK hgd; clear K gd
  repeat (with_reducible first | refine W_seq ?_ | refine W_block ?_ | refine W_skip ?_ | refine W_ret ?_ | refine W_exit ?_ | refine thenQ_normal ?_ | refine thenQ_exit ?_ | refine thenQ_ret ?_ | refine blockQ_normal ?_ | refine blockQ_ret ?_ | refine blockQ_same ?_ | refine blockQ_other rfl ?_)
  refine W_reg (by rfl) ?_; intro gd K hgd hK
  try simp (disch := first | omega | assumption | rfl) only [↓reduceIte, go_sem, Nat.reduceLT, Nat.reduceEqDiff, Nat.reduceSub]
  refine Fn.mono (New_ti w w (Keep.refl _ _)) ?_
  rintro _ w1 ⟨hE1, tb, s0, rfl, hT1, hnew⟩
  try simp (disch := first | omega | assumption | rfl) only [↓reduceIte, go_sem, Nat.reduceLT, Nat.reduceEqDiff, Nat.reduceSub]
  refine hK _ _ ?_; clear hK hgd; clear K; try clear gd
  repeat (with_reducible first | refine W_seq ?_ | refine W_block ?_ | refine W_skip ?_ | refine W_ret ?_ | refine W_exit ?_ | refine thenQ_normal ?_ | refine thenQ_exit ?_ | refine thenQ_ret ?_ | refine blockQ_normal ?_ | refine blockQ_ret ?_ | refine blockQ_same ?_ | refine blockQ_other rfl ?_)
  refine W_reg (by rfl) ?_; intro gd K hgd hK; simp (disch := first | omega | assumption | rfl) only [↓reduceIte, go_sem, Nat.reduceLT, Nat.reduceEqDiff, Nat.reduceSub]; refine hK _ _ ?_; clear hK hgd; clear K gd
  repeat (with_reducible first | refine W_seq ?_ | refine W_block ?_ | refine W_skip ?_ | refine W_ret ?_ | refine W_exit ?_ | refine thenQ_normal ?_ | refine thenQ_exit ?_ | refine thenQ_ret ?_ | refine blockQ_normal ?_ | refine blockQ_ret ?_ | refine blockQ_same ?_ | refine blockQ_other rfl ?_)
  refine W_cond (by simp only [↓reduceIte, go_sem, Nat.reduceLT, Nat.reduceEqDiff, Nat.reduceSub, ptrOf]; rfl) ?_ ?_
  · intro h; simp at h
  intro _
  repeat (with_reducible first | refine W_seq ?_ | refine W_block ?_ | refine W_skip ?_ | refine W_ret ?_ | refine W_exit ?_ | refine thenQ_normal ?_ | refine thenQ_exit ?_ | refine thenQ_ret ?_ | refine blockQ_normal ?_ | refine blockQ_ret ?_ | refine blockQ_same ?_ | refine blockQ_other rfl ?_)
  refine W_reg (by rfl) ?_; intro gd K hgd hK
  try simp (disch := first | omega | assumption | rfl) only [↓reduceIte, go_sem, Nat.reduceLT, Nat.reduceEqDiff, Nat.reduceSub]
  refine bs_two (z := vs []) rfl rfl rfl rfl rfl rfl ?_
  intro w2 hE2 hs2 ho2
  try simp (disch := first | omega | assumption | rfl) only [↓reduceIte, go_sem, Nat.reduceLT, Nat.reduceEqDiff, Nat.reduceSub]
  have hn1 : LB [[65], [98]] := lb_small (by decide)
  refine Fn.mono (Put_ti (n := [[65], [98]]) (v := .int .i64 7) (hT1.on hE2) (Still.of_row (RowZ.own ho2 (fun b hb => hT1.lt b hb))) hn1 (by decide) rfl) ?_
  rintro _ w3 ⟨s, hT, _, _⟩
  try simp (disch := first | omega | assumption | rfl) only [↓reduceIte, go_sem, Nat.reduceLT, Nat.reduceEqDiff, Nat.reduceSub]
  refine hK _ _ ?_; clear hK hgd; clear K; try clear gd
  have hf1 : foldN [[65], [98]] = [[97], [98]] := by decide
  have hsh : shorts 2 ([] ++ [([[65], [98]], Value.int .i64 7)]) := shorts_one hn1 (by decide)
  have M : ∀ g, g ∈ s.names ↔ g ∈ ([[], [[98]], [[97], [98]]] : List Nm) := fun g => by
    rw [hT.hist.names]
    simp only [List.nil_append, List.mem_singleton, exists_eq_left, hf1, List.suffix_cons_iff, List.suffix_nil, List.mem_cons, List.not_mem_nil, or_false]
    constructor
    · rintro (h | h | h | h) <;> simp [h]
    · rintro (h | h | h) <;> simp [h]
  have hlen3 : s.names.length = 3 := ((List.perm_ext_iff_of_nodup hT.ok.nd (by decide)).2 M).length_eq
  have hkids : sortK (kidsOf s.names []) = [[98]] := by
    have : (kidsOf s.names []).Perm [[98]] := (List.perm_ext_iff_of_nodup (kidsOf_nd hT.ok.nd _) (by decide)).2 (fun l => by
      rw [mem_kidsOf, M]; simp)
    rw [sortK_congr this]; simp [sortK]
  have hdep : dep s.names [[120], [98]] = 1 := by
    unfold dep
    rw [if_neg (by rw [M]; decide)]
    unfold dep
    rw [if_pos (by rw [M]; decide)]; rfl
  have hhas1 : s.has [[97], [98]] = true := by rw [hT.hist.has, lastOf_app, if_pos hf1]; rfl
  have hval1 : s.val [[97], [98]] = .int .i64 7 := by rw [hT.hist.val, lastOf_app, if_pos hf1]; rfl
  have hhas2 : s.has [[98]] = false := by rw [hT.hist.has, lastOf_app, if_neg (by rw [hf1]; decide)]; rfl
  have hE3 := hT.ext
  clear hT1 hnew hE1 hE2 ho2 hs2
  repeat (with_reducible first | refine W_seq ?_ | refine W_block ?_ | refine W_skip ?_ | refine W_ret ?_ | refine W_exit ?_ | refine thenQ_normal ?_ | refine thenQ_exit ?_ | refine thenQ_ret ?_ | refine blockQ_normal ?_ | refine blockQ_ret ?_ | refine blockQ_same ?_ | refine blockQ_other rfl ?_)
  refine W_reg (by rfl) ?_; intro gd K hgd hK
  try simp (disch := first | omega | assumption | rfl) only [↓reduceIte, go_sem, Nat.reduceLT, Nat.reduceEqDiff, Nat.reduceSub]
  refine bs_two (z := vs []) rfl rfl rfl rfl rfl rfl ?_
  intro w4 hE4 hs4 ho4
  try simp (disch := first | omega | assumption | rfl) only [↓reduceIte, go_sem, Nat.reduceLT, Nat.reduceEqDiff, Nat.reduceSub]
  refine Fn.mono (Get_ok (n := [[97], [66]]) (hT.on hE4).lies hT.ok ho4.row (lb_small (by decide)) (by decide)) ?_
  rintro _ w5 ⟨rfl, hE5⟩
  have hf2 : foldN [[97], [66]] = [[97], [98]] := by decide
  rw [hf2, hhas1, hval1]
  try simp (disch := first | omega | assumption | rfl) only [↓reduceIte, go_sem, Nat.reduceLT, Nat.reduceEqDiff, Nat.reduceSub]
  refine hK _ _ ?_; clear hK hgd; clear K; try clear gd
  repeat (with_reducible first | refine W_seq ?_ | refine W_block ?_ | refine W_skip ?_ | refine W_ret ?_ | refine W_exit ?_ | refine thenQ_normal ?_ | refine thenQ_exit ?_ | refine thenQ_ret ?_ | refine blockQ_normal ?_ | refine blockQ_ret ?_ | refine blockQ_same ?_ | refine blockQ_other rfl ?_)
  refine W_reg (by rfl) ?_; intro gd K hgd hK
  try simp (disch := first | omega | assumption | rfl) only [↓reduceIte, go_sem, Nat.reduceLT, Nat.reduceEqDiff, Nat.reduceSub]
  refine bs_one (z := vs []) rfl rfl rfl rfl rfl ?_
  intro w6 hE6 hs6 ho6
  have hE6' := (hE4.trans hE5).trans hE6
  try simp (disch := first | omega | assumption | rfl) only [↓reduceIte, go_sem, Nat.reduceLT, Nat.reduceEqDiff, Nat.reduceSub]
  refine Fn.mono (Get_ok (n := [[98]]) (hT.on hE6').lies hT.ok ho6.row (lb_small (by decide)) (by decide)) ?_
  rintro _ w7 ⟨rfl, hE7⟩
  have hf3 : foldN [[98]] = [[98]] := by decide
  rw [hf3, hhas2]
  try simp (disch := first | omega | assumption | rfl) only [↓reduceIte, go_sem, Nat.reduceLT, Nat.reduceEqDiff, Nat.reduceSub]
  refine hK _ _ ?_; clear hK hgd; clear K; try clear gd
  repeat (with_reducible first | refine W_seq ?_ | refine W_block ?_ | refine W_skip ?_ | refine W_ret ?_ | refine W_exit ?_ | refine thenQ_normal ?_ | refine thenQ_exit ?_ | refine thenQ_ret ?_ | refine blockQ_normal ?_ | refine blockQ_ret ?_ | refine blockQ_same ?_ | refine blockQ_other rfl ?_)
  refine W_reg (by rfl) ?_; intro gd K hgd hK
  try simp (disch := first | omega | assumption | rfl) only [↓reduceIte, go_sem, Nat.reduceLT, Nat.reduceEqDiff, Nat.reduceSub]
  have hE7' := hE6'.trans hE7
  refine Fn.mono (Kids_ok (n := []) (hT.on hE7').lies hT.ok (hT.small hsh (by decide) (by decide)) ⟨Option.none, 0, rfl, Nat.le_refl _, fun j h => by simp at h⟩ (fun l h => by cases h) (by decide)) ?_
  rw [show foldN [] = [] from rfl, hkids]
  rintro _ w8 ⟨⟨ka, kc, rfl, hkc, hka⟩, hE8⟩
  have hE8' := hE7'.trans hE8
  try simp (disch := first | omega | assumption | rfl) only [↓reduceIte, go_sem, Nat.reduceLT, Nat.reduceEqDiff, Nat.reduceSub]
  refine hK _ _ ?_; clear hK hgd; clear K; try clear gd
  repeat (with_reducible first | refine W_seq ?_ | refine W_block ?_ | refine W_skip ?_ | refine W_ret ?_ | refine W_exit ?_ | refine thenQ_normal ?_ | refine thenQ_exit ?_ | refine thenQ_ret ?_ | refine blockQ_normal ?_ | refine blockQ_ret ?_ | refine blockQ_same ?_ | refine blockQ_other rfl ?_)
  refine W_reg (by rfl) ?_; intro gd K hgd hK
  have hg1 : ∀ n σ b, wantV gd n σ (some (1, b)) = boolIs (ev n σ (.tmp 28)) b := (fun n σ b => by rw [wantV_some, show gd 1 = some 28 from (by rw [hgd]; rfl)]; rfl); have hg5 : ∀ n σ b, wantV gd n σ (some (5, b)) = boolIs (ev n σ (.tmp 32)) b := (fun n σ b => by rw [wantV_some, show gd 5 = some 32 from (by rw [hgd]; rfl)]; rfl); have hg9 : ∀ n σ b, wantV gd n σ (some (9, b)) = boolIs (ev n σ (.tmp 36)) b := (fun n σ b => by rw [wantV_some, show gd 9 = some 36 from (by rw [hgd]; rfl)]; rfl); have hg14 : ∀ n σ b, wantV gd n σ (some (14, b)) = boolIs (ev n σ (.tmp 41)) b := (fun n σ b => by rw [wantV_some, show gd 14 = some 41 from (by rw [hgd]; rfl)]; rfl); have hg19 : ∀ n σ b, wantV gd n σ (some (19, b)) = boolIs (ev n σ (.tmp 46)) b := (fun n σ b => by rw [wantV_some, show gd 19 = some 46 from (by rw [hgd]; rfl)]; rfl); have hg26 : ∀ n σ b, wantV gd n σ (some (26, b)) = boolIs (ev n σ (.tmp 53)) b := (fun n σ b => by rw [wantV_some, show gd 26 = some 53 from (by rw [hgd]; rfl)]; rfl); have hg31 : ∀ n σ b, wantV gd n σ (some (31, b)) = boolIs (ev n σ (.tmp 58)) b := (fun n σ b => by rw [wantV_some, show gd 31 = some 58 from (by rw [hgd]; rfl)]; rfl); have hg37 : ∀ n σ b, wantV gd n σ (some (37, b)) = boolIs (ev n σ (.tmp 64)) b := (fun n σ b => by rw [wantV_some, show gd 37 = some 64 from (by rw [hgd]; rfl)]; rfl)
  try simp (disch := first | omega | assumption | rfl) only [↓reduceIte, go_sem, Nat.reduceLT, Nat.reduceEqDiff, Nat.reduceSub, ↓hg1, ↓hg5, ↓hg9, ↓hg14, ↓hg19, ↓hg26, ↓hg31, ↓hg37, decide_true]
  refine bs_one (z := vs []) rfl rfl rfl rfl rfl ?_
  intro w9 hE9 hs9 ho9
  have hE9' := hE8'.trans hE9
  try simp (disch := first | omega | assumption | rfl) only [↓reduceIte, go_sem, Nat.reduceLT, Nat.reduceEqDiff, Nat.reduceSub, ↓hg1, ↓hg5, ↓hg9, ↓hg14, ↓hg19, ↓hg26, ↓hg31, ↓hg37, decide_true]
  refine Fn.mono (Has_ok (n := [[98]]) (hT.on hE9').lies hT.ok ho9.row (lb_small (by decide)) (by decide)) ?_
  rintro _ w10 ⟨rfl, hE10⟩
  have hE10' := hE9'.trans hE10
  rw [hf3, decide_eq_true (show [[98]] ∈ s.names by rw [M]; decide)]
  try simp (disch := first | omega | assumption | rfl) only [↓reduceIte, go_sem, Nat.reduceLT, Nat.reduceEqDiff, Nat.reduceSub, ↓hg1, ↓hg5, ↓hg9, ↓hg14, ↓hg19, ↓hg26, ↓hg31, ↓hg37, decide_true]
  refine Fn.mono (Len_ok (hT.on hE10').lies) ?_
  rintro _ w11 ⟨rfl, hE11⟩
  have hE11' := hE10'.trans hE11
  rw [hlen3]
  try simp (disch := first | omega | assumption | rfl) only [↓reduceIte, go_sem, Nat.reduceLT, Nat.reduceEqDiff, Nat.reduceSub, ↓hg1, ↓hg5, ↓hg9, ↓hg14, ↓hg19, ↓hg26, ↓hg31, ↓hg37, show ((3 : Nat) : Int) = 3 from rfl, decide_true]
  refine bs_two (z := vs []) rfl rfl rfl rfl rfl rfl ?_
  intro w12 hE12 hs12 ho12
  have hE12' := hE11'.trans hE12
  try simp (disch := first | omega | assumption | rfl) only [↓reduceIte, go_sem, Nat.reduceLT, Nat.reduceEqDiff, Nat.reduceSub, ↓hg1, ↓hg5, ↓hg9, ↓hg14, ↓hg19, ↓hg26, ↓hg31, ↓hg37, decide_true]
  refine Fn.mono (Deepest_ok (n := [[120], [98]]) (hT.on hE12').lies hT.ok ho12.row (lb_small (by decide)) (by decide)) ?_
  rw [show foldN [[120], [98]] = [[120], [98]] from by decide, hdep]
  rintro _ w13 ⟨⟨da, dc, rfl, hdc, hda⟩, hE13⟩
  have hE13' := hE12'.trans hE13
  have hk0 : cellO w13 (adr ka 0) = some (vs [98]) := cellO_ext (((((hE9.trans hE10).trans hE11).trans hE12).trans hE13)) (hka 0 (by simp))
  have hksa : ka.isSome = true := some_of_cellO hk0
  rw [adr_zero] at hk0
  have hl1 : (List.map vs (sfx [[120], [98]] 1)).length = 1 := rfl
  have hl2 : ([vs [98]] : List Value).length = 1 := rfl
  have hl3 : ((1 : Nat) : Int) = 1 := rfl
  rw [hl1]
  try simp (disch := first | omega | assumption | rfl) only [↓reduceIte, go_sem, Nat.reduceLT, Nat.reduceEqDiff, Nat.reduceSub, ↓hg1, ↓hg5, ↓hg9, ↓hg14, ↓hg19, ↓hg26, ↓hg31, ↓hg37, decide_true, hk0, adr_zero, hl2, hl3, Int.toNat_zero, Nat.zero_mul]
  refine Fn.mono (Names_ti (hT.on hE13') hsh (by decide) (by decide)) ?_
  rintro _ w14 ⟨hE14, L, ⟨vals, ⟨na, nc, rfl, hnc, hna⟩, hvl, _⟩, _, _, hLl⟩
  have hl4 : vals.length = 3 := by omega
  rw [hl4]
  have hl5 : ((3 : Nat) : Int) = 3 := rfl
  try simp (disch := first | omega | assumption | rfl) only [↓reduceIte, go_sem, Nat.reduceLT, Nat.reduceEqDiff, Nat.reduceSub, ↓hg1, ↓hg5, ↓hg9, ↓hg14, ↓hg19, ↓hg26, ↓hg31, ↓hg37, decide_true, hl5]
  refine hK _ _ ?_; clear hK hgd; clear K; try clear gd
  repeat (with_reducible first | refine W_seq ?_ | refine W_block ?_ | refine W_skip ?_ | refine W_ret ?_ | refine W_exit ?_ | refine thenQ_normal ?_ | refine thenQ_exit ?_ | refine thenQ_ret ?_ | refine blockQ_normal ?_ | refine blockQ_ret ?_ | refine blockQ_same ?_ | refine blockQ_other rfl ?_)
  refine ret_one (by simp) rfl Try.ntmps7 (by simp only [↓reduceIte, go_sem, Nat.reduceLT, Nat.reduceEqDiff, Nat.reduceSub]; rfl) ?_
  exact ⟨rfl, hE3.trans (hE13'.trans hE14)⟩
end Go.Proofs.Ytciadbhnodgpgaa
