/-
  The contracts of the reference's labels and names.
  Conditions: none.
-/
import Derived.Test.YtciadbhnodgpgaaC1
set_option linter.unusedVariables false
set_option linter.unusedSimpArgs false
set_option linter.defProp false
namespace Go.Proofs.Ytciadbhnodgpgaa
open Go
set_option maxRecDepth 10000

theorem u8_le (u : UInt8) : (65 ≤ u ↔ (65 : Int) ≤ u.toNat) ∧ (u ≤ 90 ↔ (u.toNat : Int) ≤ 90) := by
  rw [UInt8.le_iff_toNat_le, UInt8.le_iff_toNat_le]
  constructor
  · show 65 ≤ u.toNat ↔ _; omega
  · show u.toNat ≤ 90 ↔ _; omega

theorem byteV_up {cc : UInt8} (h65 : (65 : Int) ≤ cc.toNat) (h90 : (cc.toNat : Int) ≤ 90) : byteV (foldB cc) = .int .u8 (cc.toNat + 32) := by
  rw [foldB_up ⟨(u8_le cc).1.2 h65, (u8_le cc).2.2 h90⟩]
  unfold byteV
  congr 1
  have : (cc + 32).toNat = cc.toNat + 32 := by
    rw [UInt8.toNat_add]; show (cc.toNat + 32) % 256 = _; omega
  rw [this]; push_cast; omega

theorem foldTo_get {l : List UInt8} {k : Nat} (hk : k < l.length) : (foldTo l k)[k]? = some l[k] := by
  unfold foldTo
  have e : (foldL (l.take k)).length = k := by simp [foldL]; omega
  rw [List.getElem?_append_right (by omega), e]; simp [hk]

theorem RFoldLabel_ok (w : World) (l : List UInt8) (hl : l.length ≤ 9000000000000000000) : Fn Try.prog 38 #[vs l] w (fun v w' => v = vs (foldL l) ∧ Ext w w') := by
  refine enter Try.func38 Try.ntmps38 rfl rfl ?_
  repeat (first | (with_reducible first | refine W_seq ?_ | refine W_block ?_ | refine W_skip ?_ | refine W_ret ?_ | refine W_exit ?_ | refine thenQ_normal ?_ | refine thenQ_exit ?_ | refine thenQ_ret ?_ | refine blockQ_normal ?_ | refine blockQ_ret ?_ | refine blockQ_same ?_ | refine blockQ_other rfl ?_) | (refine W_reg (by rfl) ?_; intro gd K hgd hK; simp (disch := first | omega | assumption | rfl) only [↓reduceIte, go_sem, Nat.reduceLT, Nat.reduceEqDiff, Nat.reduceSub]; refine hK _ _ ?_; clear hK hgd; clear K gd))
  repeat (with_reducible first | refine W_seq ?_ | refine W_block ?_ | refine W_skip ?_ | refine W_ret ?_ | refine W_exit ?_ | refine thenQ_normal ?_ | refine thenQ_exit ?_ | refine thenQ_ret ?_ | refine blockQ_normal ?_ | refine blockQ_ret ?_ | refine blockQ_same ?_ | refine blockQ_other rfl ?_)
  refine W_reg (by rfl) ?_; intro gd K hgd hK
  try simp (disch := first | omega | assumption | rfl) only [↓reduceIte, go_sem, Nat.reduceLT, Nat.reduceEqDiff, Nat.reduceSub]
  refine conv_s2b rfl rfl rfl (by simp only [↓reduceIte, go_sem, Nat.reduceLT, Nat.reduceEqDiff, Nat.reduceSub]) ?_
  intro c cur w1 hlc hcur htake hE1 hsz1 hb1
  try simp (disch := first | omega | assumption | rfl) only [↓reduceIte, go_sem, Nat.reduceLT, Nat.reduceEqDiff, Nat.reduceSub]
  refine hK _ _ ?_; clear hK hgd; clear K; try clear gd
  repeat (first | (with_reducible first | refine W_seq ?_ | refine W_block ?_ | refine W_skip ?_ | refine W_ret ?_ | refine W_exit ?_ | refine thenQ_normal ?_ | refine thenQ_exit ?_ | refine thenQ_ret ?_ | refine blockQ_normal ?_ | refine blockQ_ret ?_ | refine blockQ_same ?_ | refine blockQ_other rfl ?_) | (refine W_reg (by rfl) ?_; intro gd K hgd hK; simp (disch := first | omega | assumption | rfl) only [↓reduceIte, go_sem, Nat.reduceLT, Nat.reduceEqDiff, Nat.reduceSub]; refine hK _ _ ?_; clear hK hgd; clear K gd))
  refine W_loop (fun m σ ds A => ds = [] ∧ ∃ i, i + m = l.length ∧ σ 4 = vi i ∧ σ 3 = .slice (some ⟨w.heap.size, 0, Option.none⟩) l.length c ∧ Ext w A ∧
    ∃ cur : Array Value, cur.size = c ∧ cur.toList.take l.length = (foldTo l i).map byteV ∧ A.heap[w.heap.size]? = some (.cells cur 5 (c, c + 1))) l.length ?_ ?_
  · refine ⟨rfl, 0, by omega, ?_, ?_, hE1, cur, hcur, by simpa [foldTo, foldL] using htake, hb1⟩ <;> simp only [↓reduceIte, go_sem, Nat.reduceLT, Nat.reduceEqDiff, Nat.reduceSub] <;> rfl
  · rintro m σ ds A ⟨rfl, i, him, h4, h3, hE, cu, hcu, hpre, hrow⟩
    repeat (with_reducible first | refine W_seq ?_ | refine W_block ?_ | refine W_skip ?_ | refine W_ret ?_ | refine W_exit ?_ | refine thenQ_normal ?_ | refine thenQ_exit ?_ | refine thenQ_ret ?_ | refine blockQ_normal ?_ | refine blockQ_ret ?_ | refine blockQ_same ?_ | refine blockQ_other rfl ?_)
    refine W_reg (by rfl) ?_; intro gd K hgd hK; simp (disch := first | omega | assumption | rfl) only [↓reduceIte, go_sem, Nat.reduceLT, Nat.reduceEqDiff, Nat.reduceSub, h4, h3]; refine hK _ _ ?_; clear hK hgd; clear K gd
    refine W_cond (by simp only [↓reduceIte, go_sem, Nat.reduceLT, Nat.reduceEqDiff, Nat.reduceSub]; rfl) ?_ ?_
    · intro hlt
      simp only [decide_eq_true_eq] at hlt
      have hk : i < l.length := by omega
      generalize hcc : l[i] = cc
      have hcell : cellO A (some ⟨w.heap.size, i, Option.none⟩) = some (.int .u8 cc.toNat) := by
        show A.cell? _ = _
        rw [cell_of hrow]
        have : (cu.toList.take l.length)[i]? = some (byteV cc) := by rw [hpre, List.getElem?_map, foldTo_get hk, hcc]; rfl
        rw [List.getElem?_take, if_pos hk] at this
        simpa [byteV] using this
      repeat (with_reducible first | refine W_skip ?_ | refine W_ret ?_ | refine W_exit ?_ | refine thenQ_normal ?_ | refine thenQ_exit ?_ | refine thenQ_ret ?_ | refine blockQ_normal ?_ | refine blockQ_ret ?_ | refine blockQ_same ?_ | refine blockQ_other rfl ?_)
      refine W_mid (fun σ ds B => ds = [] ∧ σ 4 = vi i ∧ σ 3 = .slice (some ⟨w.heap.size, 0, Option.none⟩) l.length c ∧ Ext w B ∧
        ∃ cur : Array Value, cur.size = c ∧ cur.toList.take l.length = (foldTo l (i + 1)).map byteV ∧ B.heap[w.heap.size]? = some (.cells cur 5 (c, c + 1))) ?_ ?_
      · repeat (with_reducible first | refine W_seq ?_ | refine W_block ?_ | refine W_skip ?_ | refine W_ret ?_ | refine W_exit ?_ | refine thenQ_normal ?_ | refine thenQ_exit ?_ | refine thenQ_ret ?_ | refine blockQ_normal ?_ | refine blockQ_ret ?_ | refine blockQ_same ?_ | refine blockQ_other rfl ?_)
        refine W_reg (by rfl) ?_; intro gd K hgd hK
        have hg5 : ∀ n σ b, wantV gd n σ (some (5, b)) = boolIs (ev n σ (.tmp 18)) b := (fun n σ b => by rw [wantV_some, show gd 5 = some 18 from (by rw [hgd]; rfl)]; rfl)
        have hno : ¬ (65 ≤ cc ∧ cc ≤ 90) → cu.toList.take l.length = (foldTo l (i + 1)).map byteV := fun h => by rw [hpre, foldTo_same hk (by rw [hcc]; exact h)]
        by_cases h65 : (65 : Int) ≤ cc.toNat
        · try simp (disch := first | omega | assumption | rfl) only [↓reduceIte, go_sem, Nat.reduceLT, Nat.reduceEqDiff, Nat.reduceSub, h4, h3, hcell, decide_eq_true h65, ↓hg5]
          refine hK _ _ ?_; clear hK hgd; clear K; try clear gd
          repeat (with_reducible first | refine W_seq ?_ | refine W_block ?_ | refine W_skip ?_ | refine W_ret ?_ | refine W_exit ?_ | refine thenQ_normal ?_ | refine thenQ_exit ?_ | refine thenQ_ret ?_ | refine blockQ_normal ?_ | refine blockQ_ret ?_ | refine blockQ_same ?_ | refine blockQ_other rfl ?_)
          refine W_cond (by simp only [↓reduceIte, go_sem, Nat.reduceLT, Nat.reduceEqDiff, Nat.reduceSub]; rfl) ?_ ?_
          · intro h90
            simp only [decide_eq_true_eq] at h90
            repeat (with_reducible first | refine W_seq ?_ | refine W_block ?_ | refine W_skip ?_ | refine W_ret ?_ | refine W_exit ?_ | refine thenQ_normal ?_ | refine thenQ_exit ?_ | refine thenQ_ret ?_ | refine blockQ_normal ?_ | refine blockQ_ret ?_ | refine blockQ_same ?_ | refine blockQ_other rfl ?_)
            refine W_reg (by rfl) ?_; intro gd K hgd hK
            try simp (disch := first | omega | assumption | rfl) only [↓reduceIte, go_sem, Nat.reduceLT, Nat.reduceEqDiff, Nat.reduceSub, h4, h3, hcell]
            refine st_one rfl rfl rfl hrow (by omega) (by simp; omega) ?_
            intro w5 hsz5 hb5 hk5
            refine hK _ _ ?_; clear hK hgd; clear K; try clear gd
            repeat (with_reducible first | refine W_skip ?_ | refine W_ret ?_ | refine W_exit ?_ | refine thenQ_normal ?_ | refine thenQ_exit ?_ | refine thenQ_ret ?_ | refine blockQ_normal ?_ | refine blockQ_ret ?_ | refine blockQ_same ?_ | refine blockQ_other rfl ?_)
            have hset : ((foldTo l i).map byteV).set i (.int .u8 (↑cc.toNat + 32)) = (foldTo l (i + 1)).map byteV := by
              rw [← foldTo_step hk, hcc, List.map_set, byteV_up h65 h90]
            refine ⟨rfl, ?_, ?_, Keep.to_ext hE rfl (fun b hb => by omega) hk5, cu.setIfInBounds i (.int .u8 (↑cc.toNat + 32)), by simpa using hcu, ?_, hb5⟩
            · simp only [↓reduceIte, go_sem, Nat.reduceLT, Nat.reduceEqDiff, Nat.reduceSub, h4]
            · simp only [↓reduceIte, go_sem, Nat.reduceLT, Nat.reduceEqDiff, Nat.reduceSub, h3]
            · rw [Array.toList_setIfInBounds, List.take_set, hpre, hset]
          · intro h90
            simp only [decide_eq_false_iff_not] at h90
            repeat (with_reducible first | refine W_skip ?_ | refine W_ret ?_ | refine W_exit ?_ | refine thenQ_normal ?_ | refine thenQ_exit ?_ | refine thenQ_ret ?_ | refine blockQ_normal ?_ | refine blockQ_ret ?_ | refine blockQ_same ?_ | refine blockQ_other rfl ?_)
            exact ⟨rfl, by simp only [↓reduceIte, go_sem, Nat.reduceLT, Nat.reduceEqDiff, Nat.reduceSub, h4], by simp only [↓reduceIte, go_sem, Nat.reduceLT, Nat.reduceEqDiff, Nat.reduceSub, h3], hE, cu, hcu, hno (fun h => h90 ((u8_le cc).2.1 h.2)), hrow⟩
        · try simp (disch := first | omega | assumption | rfl) only [↓reduceIte, go_sem, Nat.reduceLT, Nat.reduceEqDiff, Nat.reduceSub, h4, h3, hcell, decide_eq_false h65, ↓hg5]
          refine hK _ _ ?_; clear hK hgd; clear K; try clear gd
          repeat (with_reducible first | refine W_seq ?_ | refine W_block ?_ | refine W_skip ?_ | refine W_ret ?_ | refine W_exit ?_ | refine thenQ_normal ?_ | refine thenQ_exit ?_ | refine thenQ_ret ?_ | refine blockQ_normal ?_ | refine blockQ_ret ?_ | refine blockQ_same ?_ | refine blockQ_other rfl ?_)
          refine W_cond (by simp only [↓reduceIte, go_sem, Nat.reduceLT, Nat.reduceEqDiff, Nat.reduceSub]; rfl) ?_ ?_
          · intro h; simp at h
          · intro _
            repeat (with_reducible first | refine W_skip ?_ | refine W_ret ?_ | refine W_exit ?_ | refine thenQ_normal ?_ | refine thenQ_exit ?_ | refine thenQ_ret ?_ | refine blockQ_normal ?_ | refine blockQ_ret ?_ | refine blockQ_same ?_ | refine blockQ_other rfl ?_)
            exact ⟨rfl, by simp only [↓reduceIte, go_sem, Nat.reduceLT, Nat.reduceEqDiff, Nat.reduceSub, h4], by simp only [↓reduceIte, go_sem, Nat.reduceLT, Nat.reduceEqDiff, Nat.reduceSub, h3], hE, cu, hcu, hno (fun h => h65 ((u8_le cc).1.1 h.1)), hrow⟩
      · rintro σ' ds B ⟨rfl, h4', h3', hE', hex⟩
        refine W_reg (by rfl) ?_; intro gd K hgd hK; simp (disch := first | omega | assumption | rfl) only [↓reduceIte, go_sem, Nat.reduceLT, Nat.reduceEqDiff, Nat.reduceSub, h4']; refine hK _ _ ?_; clear hK hgd; clear K gd
        refine thenQ_normal ?_
        exact ⟨m - 1, by omega, rfl, i + 1, by omega, by simp only [↓reduceIte, go_sem, Nat.reduceLT, Nat.reduceEqDiff, Nat.reduceSub]; rfl, by simp only [↓reduceIte, go_sem, Nat.reduceLT, Nat.reduceEqDiff, Nat.reduceSub, h3'], hE', hex⟩
    · intro hge
      simp only [decide_eq_false_iff_not] at hge
      have hfull : foldTo l i = foldL l := by unfold foldTo; rw [List.take_of_length_le (by omega), List.drop_of_length_le (by omega)]; simp
      rw [hfull] at hpre
      have hlen : (foldL l).length = l.length := by simp [foldL]
      repeat (with_reducible first | refine W_seq ?_ | refine W_block ?_ | refine W_skip ?_ | refine W_ret ?_ | refine W_exit ?_ | refine thenQ_normal ?_ | refine thenQ_exit ?_ | refine thenQ_ret ?_ | refine blockQ_normal ?_ | refine blockQ_ret ?_ | refine blockQ_same ?_ | refine blockQ_other rfl ?_)
      refine W_reg (by rfl) ?_; intro gd K hgd hK
      try simp (disch := first | omega | assumption | rfl) only [↓reduceIte, go_sem, Nat.reduceLT, Nat.reduceEqDiff, Nat.reduceSub, h3]
      rw [← hlen]
      refine conv_b2s rfl rfl rfl (by simp only [↓reduceIte, go_sem, Nat.reduceLT, Nat.reduceEqDiff, Nat.reduceSub, h3, hlen]) ?_ ?_
      · intro j hj
        rw [hlen] at hj
        rw [adr_some]
        show A.cell? _ = _
        rw [cell_of hrow]
        have : (cu.toList.take l.length)[j]? = some (byteV ((foldL l)[j]'(by omega))) := by
          rw [hpre, List.getElem?_map, List.getElem?_eq_getElem (by omega)]; rfl
        rw [List.getElem?_take, if_pos hj] at this
        simpa using this
      try simp (disch := first | omega | assumption | rfl) only [↓reduceIte, go_sem, Nat.reduceLT, Nat.reduceEqDiff, Nat.reduceSub]
      refine hK _ _ ?_; clear hK hgd; clear K; try clear gd
      repeat (with_reducible first | refine W_seq ?_ | refine W_block ?_ | refine W_skip ?_ | refine W_ret ?_ | refine W_exit ?_ | refine thenQ_normal ?_ | refine thenQ_exit ?_ | refine thenQ_ret ?_ | refine blockQ_normal ?_ | refine blockQ_ret ?_ | refine blockQ_same ?_ | refine blockQ_other rfl ?_)
      refine ret_one (by simp) rfl Try.ntmps38 (by simp only [↓reduceIte, go_sem, Nat.reduceLT, Nat.reduceEqDiff, Nat.reduceSub]; rfl) ?_
      exact ⟨rfl, hE⟩
end Go.Proofs.Ytciadbhnodgpgaa
