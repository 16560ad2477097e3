/-
  The reference's names: folded, their order; short names.
  Conditions: none.
-/
import Derived.Test.YtciadbhnodgpgaaC3
import Derived.Test.YtciadbhnodgpgaaS1
set_option linter.unusedVariables false
set_option linter.unusedSimpArgs false
set_option linter.defProp false
namespace Go.Proofs.Ytciadbhnodgpgaa
open Go
set_option maxRecDepth 10000

theorem bytesLt_cmp : ∀ a b : Lab, bytesLt a b = decide (cmpL a b < 0)
  | [], [] => rfl
  | [], _ :: _ => rfl
  | _ :: _, [] => rfl
  | a :: l, b :: m => by
    show (decide (a < b) || (a == b && bytesLt l m)) = decide ((if a < b then (-1 : Int) else if b < a then 1 else cmpL l m) < 0)
    by_cases h1 : a < b
    · simp [h1]
    · by_cases h2 : b < a
      · have : ¬ a = b := by rintro rfl; exact h1 h2
        simp [h1, h2, this]
      · have : a = b := by apply UInt8.toNat_inj.1; rw [u8_lt_iff] at *; omega
        subst this
        simp [h1, bytesLt_cmp l m]

theorem cmpL_cases : ∀ a b : Lab, cmpL a b = -1 ∨ cmpL a b = 0 ∨ cmpL a b = 1
  | [], [] => .inr (.inl rfl)
  | [], _ :: _ => .inl rfl
  | _ :: _, [] => .inr (.inr rfl)
  | a :: l, b :: m => by
    show (if a < b then (-1 : Int) else if b < a then 1 else cmpL l m) = -1 ∨ (if a < b then (-1 : Int) else if b < a then 1 else cmpL l m) = 0 ∨ (if a < b then (-1 : Int) else if b < a then 1 else cmpL l m) = 1
    by_cases h1 : a < b
    · simp [h1]
    · by_cases h2 : b < a
      · simp [h1, h2]
      · simp only [h1, h2, if_false]; exact cmpL_cases l m

theorem cmpL_lt_trans {a b c : Lab} (h1 : cmpL a b < 0) (h2 : cmpL b c ≤ 0) : cmpL a c < 0 := by
  have h3 := cmpL_trans (Int.le_of_lt h1) h2
  by_cases h : cmpL a c = 0
  · have := cmpL_zero h
    subst this
    have := cmpL_neg a b
    omega
  · omega
theorem cmpL_lt_trans' {a b c : Lab} (h1 : cmpL a b ≤ 0) (h2 : cmpL b c < 0) : cmpL a c < 0 := by
  have h3 := cmpL_trans h1 (Int.le_of_lt h2)
  by_cases h : cmpL a c = 0
  · have := cmpL_zero h
    subst this
    have := cmpL_neg a b
    omega
  · omega
theorem ROrder_ok (w : World) (a b : Lab) : Fn Try.prog 42 #[vs a, vs b] w (fun v w' => v = vi (cmpL a b) ∧ Ext w w') := by
  have hc := cmpL_cases a b
  have h1 := bytesLt_cmp a b
  have h2 : cmpL a b = 0 ↔ a = b := ⟨cmpL_zero, fun h => by rw [h]; exact cmpL_self _⟩
  refine enter Try.func42 Try.ntmps42 rfl rfl ?_
  repeat (first | (with_reducible first | refine W_seq ?_ | refine W_block ?_ | refine W_skip ?_ | refine W_ret ?_ | refine W_exit ?_ | refine thenQ_normal ?_ | refine thenQ_exit ?_ | refine thenQ_ret ?_ | refine blockQ_normal ?_ | refine blockQ_ret ?_ | refine blockQ_same ?_ | refine blockQ_other rfl ?_) | (refine W_reg (by rfl) ?_; intro gd K hgd hK; simp (disch := first | omega | assumption | rfl) only [↓reduceIte, go_sem, Nat.reduceLT, Nat.reduceEqDiff, Nat.reduceSub]; refine hK _ _ ?_; clear hK hgd; clear K gd))
  refine W_cond (by simp only [↓reduceIte, go_sem, Nat.reduceLT, Nat.reduceEqDiff, Nat.reduceSub]; rfl) ?_ ?_
  · intro ht
    rw [h1] at ht
    simp only [decide_eq_true_eq] at ht
    repeat (first | (with_reducible first | refine W_seq ?_ | refine W_block ?_ | refine W_skip ?_ | refine W_ret ?_ | refine W_exit ?_ | refine thenQ_normal ?_ | refine thenQ_exit ?_ | refine thenQ_ret ?_ | refine blockQ_normal ?_ | refine blockQ_ret ?_ | refine blockQ_same ?_ | refine blockQ_other rfl ?_) | (refine W_reg (by rfl) ?_; intro gd K hgd hK; simp (disch := first | omega | assumption | rfl) only [↓reduceIte, go_sem, Nat.reduceLT, Nat.reduceEqDiff, Nat.reduceSub]; refine hK _ _ ?_; clear hK hgd; clear K gd))
    refine ret_one (by simp) rfl Try.ntmps42 (by simp only [↓reduceIte, go_sem, Nat.reduceLT, Nat.reduceEqDiff, Nat.reduceSub]; rfl) ?_
    exact ⟨by congr 1; omega, Keep.refl _ _⟩
  · intro hf
    rw [h1] at hf
    simp only [decide_eq_false_iff_not] at hf
    repeat (first | (with_reducible first | refine W_seq ?_ | refine W_block ?_ | refine W_skip ?_ | refine W_ret ?_ | refine W_exit ?_ | refine thenQ_normal ?_ | refine thenQ_exit ?_ | refine thenQ_ret ?_ | refine blockQ_normal ?_ | refine blockQ_ret ?_ | refine blockQ_same ?_ | refine blockQ_other rfl ?_) | (refine W_reg (by rfl) ?_; intro gd K hgd hK; simp (disch := first | omega | assumption | rfl) only [↓reduceIte, go_sem, Nat.reduceLT, Nat.reduceEqDiff, Nat.reduceSub]; refine hK _ _ ?_; clear hK hgd; clear K gd))
    refine W_cond (by simp only [↓reduceIte, go_sem, Nat.reduceLT, Nat.reduceEqDiff, Nat.reduceSub]; rfl) ?_ ?_
    · intro ht
      rw [h1] at ht
      simp only [Bool.not_eq_true', Bool.or_eq_false_iff, decide_eq_false_iff_not] at ht
      repeat (first | (with_reducible first | refine W_seq ?_ | refine W_block ?_ | refine W_skip ?_ | refine W_ret ?_ | refine W_exit ?_ | refine thenQ_normal ?_ | refine thenQ_exit ?_ | refine thenQ_ret ?_ | refine blockQ_normal ?_ | refine blockQ_ret ?_ | refine blockQ_same ?_ | refine blockQ_other rfl ?_) | (refine W_reg (by rfl) ?_; intro gd K hgd hK; simp (disch := first | omega | assumption | rfl) only [↓reduceIte, go_sem, Nat.reduceLT, Nat.reduceEqDiff, Nat.reduceSub]; refine hK _ _ ?_; clear hK hgd; clear K gd))
      refine ret_one (by simp) rfl Try.ntmps42 (by simp only [↓reduceIte, go_sem, Nat.reduceLT, Nat.reduceEqDiff, Nat.reduceSub]; rfl) ?_
      refine ⟨?_, Keep.refl _ _⟩
      have : ¬ cmpL a b = 0 := fun h => ht.2 (h2.1 h)
      congr 1; omega
    · intro hf2
      rw [h1] at hf2
      simp only [Bool.not_eq_false', Bool.or_eq_true, decide_eq_true_eq] at hf2
      repeat (first | (with_reducible first | refine W_seq ?_ | refine W_block ?_ | refine W_skip ?_ | refine W_ret ?_ | refine W_exit ?_ | refine thenQ_normal ?_ | refine thenQ_exit ?_ | refine thenQ_ret ?_ | refine blockQ_normal ?_ | refine blockQ_ret ?_ | refine blockQ_same ?_ | refine blockQ_other rfl ?_) | (refine W_reg (by rfl) ?_; intro gd K hgd hK; simp (disch := first | omega | assumption | rfl) only [↓reduceIte, go_sem, Nat.reduceLT, Nat.reduceEqDiff, Nat.reduceSub]; refine hK _ _ ?_; clear hK hgd; clear K gd))
      refine ret_one (by simp) rfl Try.ntmps42 (by simp only [↓reduceIte, go_sem, Nat.reduceLT, Nat.reduceEqDiff, Nat.reduceSub]; rfl) ?_
      refine ⟨?_, Keep.refl _ _⟩
      have : cmpL a b = 0 := h2.2 (hf2.resolve_left hf)
      rw [this]

theorem RCompareLabel_ok (w : World) (a b : Lab) (ha : a.length ≤ 9000000000000000000) (hb : b.length ≤ 9000000000000000000) : Fn Try.prog 20 #[vs a, vs b] w (fun v w' => v = vi (cmpL (foldL a) (foldL b)) ∧ Ext w w') := by
  refine enter Try.func20 Try.ntmps20 rfl rfl ?_
  repeat (first | (with_reducible first | refine W_seq ?_ | refine W_block ?_ | refine W_skip ?_ | refine W_ret ?_ | refine W_exit ?_ | refine thenQ_normal ?_ | refine thenQ_exit ?_ | refine thenQ_ret ?_ | refine blockQ_normal ?_ | refine blockQ_ret ?_ | refine blockQ_same ?_ | refine blockQ_other rfl ?_) | (refine W_reg (by rfl) ?_; intro gd K hgd hK; simp (disch := first | omega | assumption | rfl) only [↓reduceIte, go_sem, Nat.reduceLT, Nat.reduceEqDiff, Nat.reduceSub]; refine hK _ _ ?_; clear hK hgd; clear K gd))
  refine W_reg (by rfl) ?_; intro gd K hgd hK
  try simp (disch := first | omega | assumption | rfl) only [↓reduceIte, go_sem, Nat.reduceLT, Nat.reduceEqDiff, Nat.reduceSub]
  refine Fn.mono (RFoldLabel_ok _ _ ha) ?_
  rintro _ w1 ⟨rfl, hE1⟩
  try simp (disch := first | omega | assumption | rfl) only [↓reduceIte, go_sem, Nat.reduceLT, Nat.reduceEqDiff, Nat.reduceSub]
  refine Fn.mono (RFoldLabel_ok _ _ hb) ?_
  rintro _ w2 ⟨rfl, hE2⟩
  try simp (disch := first | omega | assumption | rfl) only [↓reduceIte, go_sem, Nat.reduceLT, Nat.reduceEqDiff, Nat.reduceSub]
  refine Fn.mono (ROrder_ok _ _ _) ?_
  rintro _ w3 ⟨rfl, hE3⟩
  try simp (disch := first | omega | assumption | rfl) only [↓reduceIte, go_sem, Nat.reduceLT, Nat.reduceEqDiff, Nat.reduceSub]
  refine hK _ _ ?_; clear hK hgd; clear K; try clear gd
  repeat (with_reducible first | refine W_seq ?_ | refine W_block ?_ | refine W_skip ?_ | refine W_ret ?_ | refine W_exit ?_ | refine thenQ_normal ?_ | refine thenQ_exit ?_ | refine thenQ_ret ?_ | refine blockQ_normal ?_ | refine blockQ_ret ?_ | refine blockQ_same ?_ | refine blockQ_other rfl ?_)
  refine ret_one (by simp) rfl Try.ntmps20 (by simp only [↓reduceIte, go_sem, Nat.reduceLT, Nat.reduceEqDiff, Nat.reduceSub]; rfl) ?_
  exact ⟨rfl, (hE1.trans hE2).trans hE3⟩

def sgn (n : Int) : Int := if n < 0 then -1 else if 0 < n then 1 else 0

theorem RSign_ok (w : World) (n : Int) : Fn Try.prog 65 #[vi n] w (fun v w' => v = vi (sgn n) ∧ Ext w w') := by
  refine enter Try.func65 Try.ntmps65 rfl rfl ?_
  repeat (first | (with_reducible first | refine W_seq ?_ | refine W_block ?_ | refine W_skip ?_ | refine W_ret ?_ | refine W_exit ?_ | refine thenQ_normal ?_ | refine thenQ_exit ?_ | refine thenQ_ret ?_ | refine blockQ_normal ?_ | refine blockQ_ret ?_ | refine blockQ_same ?_ | refine blockQ_other rfl ?_) | (refine W_reg (by rfl) ?_; intro gd K hgd hK; simp (disch := first | omega | assumption | rfl) only [↓reduceIte, go_sem, Nat.reduceLT, Nat.reduceEqDiff, Nat.reduceSub]; refine hK _ _ ?_; clear hK hgd; clear K gd))
  refine W_cond (by simp only [↓reduceIte, go_sem, Nat.reduceLT, Nat.reduceEqDiff, Nat.reduceSub]; rfl) ?_ ?_
  · intro ht
    simp only [decide_eq_true_eq] at ht
    repeat (first | (with_reducible first | refine W_seq ?_ | refine W_block ?_ | refine W_skip ?_ | refine W_ret ?_ | refine W_exit ?_ | refine thenQ_normal ?_ | refine thenQ_exit ?_ | refine thenQ_ret ?_ | refine blockQ_normal ?_ | refine blockQ_ret ?_ | refine blockQ_same ?_ | refine blockQ_other rfl ?_) | (refine W_reg (by rfl) ?_; intro gd K hgd hK; simp (disch := first | omega | assumption | rfl) only [↓reduceIte, go_sem, Nat.reduceLT, Nat.reduceEqDiff, Nat.reduceSub]; refine hK _ _ ?_; clear hK hgd; clear K gd))
    refine ret_one (by simp) rfl Try.ntmps65 (by simp only [↓reduceIte, go_sem, Nat.reduceLT, Nat.reduceEqDiff, Nat.reduceSub]; rfl) ?_
    exact ⟨by rw [sgn, if_pos ht], Keep.refl _ _⟩
  · intro hf
    simp only [decide_eq_false_iff_not] at hf
    repeat (first | (with_reducible first | refine W_seq ?_ | refine W_block ?_ | refine W_skip ?_ | refine W_ret ?_ | refine W_exit ?_ | refine thenQ_normal ?_ | refine thenQ_exit ?_ | refine thenQ_ret ?_ | refine blockQ_normal ?_ | refine blockQ_ret ?_ | refine blockQ_same ?_ | refine blockQ_other rfl ?_) | (refine W_reg (by rfl) ?_; intro gd K hgd hK; simp (disch := first | omega | assumption | rfl) only [↓reduceIte, go_sem, Nat.reduceLT, Nat.reduceEqDiff, Nat.reduceSub]; refine hK _ _ ?_; clear hK hgd; clear K gd))
    refine W_cond (by simp only [↓reduceIte, go_sem, Nat.reduceLT, Nat.reduceEqDiff, Nat.reduceSub]; rfl) ?_ ?_
    · intro ht
      simp only [decide_eq_true_eq] at ht
      repeat (first | (with_reducible first | refine W_seq ?_ | refine W_block ?_ | refine W_skip ?_ | refine W_ret ?_ | refine W_exit ?_ | refine thenQ_normal ?_ | refine thenQ_exit ?_ | refine thenQ_ret ?_ | refine blockQ_normal ?_ | refine blockQ_ret ?_ | refine blockQ_same ?_ | refine blockQ_other rfl ?_) | (refine W_reg (by rfl) ?_; intro gd K hgd hK; simp (disch := first | omega | assumption | rfl) only [↓reduceIte, go_sem, Nat.reduceLT, Nat.reduceEqDiff, Nat.reduceSub]; refine hK _ _ ?_; clear hK hgd; clear K gd))
      refine ret_one (by simp) rfl Try.ntmps65 (by simp only [↓reduceIte, go_sem, Nat.reduceLT, Nat.reduceEqDiff, Nat.reduceSub]; rfl) ?_
      exact ⟨by rw [sgn, if_neg hf, if_pos ht], Keep.refl _ _⟩
    · intro hf2
      simp only [decide_eq_false_iff_not] at hf2
      repeat (first | (with_reducible first | refine W_seq ?_ | refine W_block ?_ | refine W_skip ?_ | refine W_ret ?_ | refine W_exit ?_ | refine thenQ_normal ?_ | refine thenQ_exit ?_ | refine thenQ_ret ?_ | refine blockQ_normal ?_ | refine blockQ_ret ?_ | refine blockQ_same ?_ | refine blockQ_other rfl ?_) | (refine W_reg (by rfl) ?_; intro gd K hgd hK; simp (disch := first | omega | assumption | rfl) only [↓reduceIte, go_sem, Nat.reduceLT, Nat.reduceEqDiff, Nat.reduceSub]; refine hK _ _ ?_; clear hK hgd; clear K gd))
      refine ret_one (by simp) rfl Try.ntmps65 (by simp only [↓reduceIte, go_sem, Nat.reduceLT, Nat.reduceEqDiff, Nat.reduceSub]; rfl) ?_
      exact ⟨by rw [sgn, if_neg hf, if_neg hf2], Keep.refl _ _⟩

/-- the order of names, from the last label on -/
def cmpR : Nm → Nm → Int
  | [], [] => 0
  | [], _ :: _ => -1
  | _ :: _, [] => 1
  | a :: l, b :: m => if cmpL a b = 0 then cmpR l m else cmpL a b
def cmpN (a b : Nm) : Int := cmpR a.reverse b.reverse

theorem cmpR_nil : ∀ a b : Nm, a = [] ∨ b = [] → cmpR a b = sgn ((a.length : Int) - b.length)
  | [], [], _ => rfl
  | [], _ :: _, _ => by simp only [cmpR, sgn, List.length_cons, List.length_nil]; rw [if_pos (by omega)]
  | _ :: _, [], _ => by simp only [cmpR, sgn, List.length_cons, List.length_nil]; rw [if_neg (by omega), if_pos (by omega)]
  | _ :: _, _ :: _, h => by simp at h

theorem cmpR_step {a b : Nm} {i : Nat} (ha : i < a.length) (hb : i < b.length) : cmpR (a.drop i) (b.drop i) = if cmpL a[i] b[i] = 0 then cmpR (a.drop (i + 1)) (b.drop (i + 1)) else cmpL a[i] b[i] := by
  rw [List.drop_eq_getElem_cons ha, List.drop_eq_getElem_cons hb]; rfl

theorem RCompare_ok (w : World) (a b : Value) (xs ys : Nm) (ha : Row w a (xs.map vs)) (hb : Row w b (ys.map vs)) (hx : LB xs) (hy : LB ys) (hxl : xs.length ≤ 9000000000000000000) (hyl : ys.length ≤ 9000000000000000000) :
    Fn Try.prog 53 #[a, b] w (fun v w' => v = vi (cmpN (foldN xs) (foldN ys)) ∧ Ext w w') := by
  obtain ⟨a, ca, rfl, hca, hla⟩ := ha
  obtain ⟨b, cb, rfl, hcb, hlb⟩ := hb
  simp only [List.length_map] at *
  refine enter Try.func53 Try.ntmps53 rfl rfl ?_
  repeat (first | (with_reducible first | refine W_seq ?_ | refine W_block ?_ | refine W_skip ?_ | refine W_ret ?_ | refine W_exit ?_ | refine thenQ_normal ?_ | refine thenQ_exit ?_ | refine thenQ_ret ?_ | refine blockQ_normal ?_ | refine blockQ_ret ?_ | refine blockQ_same ?_ | refine blockQ_other rfl ?_) | (refine W_reg (by rfl) ?_; intro gd K hgd hK; simp (disch := first | omega | assumption | rfl) only [↓reduceIte, go_sem, Nat.reduceLT, Nat.reduceEqDiff, Nat.reduceSub]; refine hK _ _ ?_; clear hK hgd; clear K gd))
  refine W_loop (fun m σ ds v => ds = [] ∧ ∃ i : Nat, i + m = xs.length ∧ i ≤ ys.length ∧ σ 5 = vi (i + 1) ∧ σ 0 = .slice a xs.length ca ∧ σ 1 = .slice b ys.length cb ∧ Ext w v ∧ cmpN (foldN xs) (foldN ys) = cmpR ((foldN xs).reverse.drop i) ((foldN ys).reverse.drop i)) xs.length ?_ ?_
  · refine ⟨rfl, 0, by omega, by omega, ?_, ?_, ?_, Keep.refl _ _, by simp [cmpN]⟩ <;> simp only [↓reduceIte, go_sem, Nat.reduceLT, Nat.reduceEqDiff, Nat.reduceSub] <;> rfl
  · rintro m σ ds v ⟨rfl, i, him, hiy, h5, h0, h1, hE, hinv⟩
    repeat (with_reducible first | refine W_seq ?_ | refine W_block ?_ | refine W_skip ?_ | refine W_ret ?_ | refine W_exit ?_ | refine thenQ_normal ?_ | refine thenQ_exit ?_ | refine thenQ_ret ?_ | refine blockQ_normal ?_ | refine blockQ_ret ?_ | refine blockQ_same ?_ | refine blockQ_other rfl ?_)
    refine W_reg (by rfl) ?_; intro gd K hgd hK
    have hg4 : ∀ n σ b, wantV gd n σ (some (4, b)) = boolIs (ev n σ (.tmp 11)) b := (fun n σ b => by rw [wantV_some, show gd 4 = some 11 from (by rw [hgd]; rfl)]; rfl)
    have hstep : ∀ (c : Bool), (c = true ↔ i < xs.length ∧ i < ys.length) → c = false → cmpR ((foldN xs).reverse.drop i) ((foldN ys).reverse.drop i) = sgn ((xs.length : Int) - ys.length) := fun c hc hf => by
      have hno : ¬ (i < xs.length ∧ i < ys.length) := fun h => by rw [hc.2 h] at hf; cases hf
      have e1 : ((foldN xs).reverse.drop i).length = xs.length - i := by simp [foldN_len]
      have e2 : ((foldN ys).reverse.drop i).length = ys.length - i := by simp [foldN_len]
      rw [cmpR_nil _ _ (by
        rcases Nat.lt_or_ge i xs.length with h | h
        · exact .inr (List.length_eq_zero_iff.1 (by omega))
        · exact .inl (List.length_eq_zero_iff.1 (by omega))), e1, e2]
      congr 1; omega
    by_cases hlx : ((i : Int) + 1 ≤ xs.length)
    · try simp (disch := first | omega | assumption | rfl) only [↓reduceIte, go_sem, Nat.reduceLT, Nat.reduceEqDiff, Nat.reduceSub, h5, h0, h1, decide_eq_true hlx, ↓hg4]
      refine hK _ _ ?_; clear hK hgd; clear K; try clear gd
      repeat (with_reducible first | refine W_seq ?_ | refine W_block ?_ | refine W_skip ?_ | refine W_ret ?_ | refine W_exit ?_ | refine thenQ_normal ?_ | refine thenQ_exit ?_ | refine thenQ_ret ?_ | refine blockQ_normal ?_ | refine blockQ_ret ?_ | refine blockQ_same ?_ | refine blockQ_other rfl ?_)
      refine W_cond (by simp only [↓reduceIte, go_sem, Nat.reduceLT, Nat.reduceEqDiff, Nat.reduceSub]; rfl) ?_ ?_
      · intro hly
        simp only [decide_eq_true_eq] at hly
        have hsa : a.isSome = true := some_of_cellO (hla (xs.length - 1 - i) (by omega))
        have hsb : b.isSome = true := some_of_cellO (hlb (ys.length - 1 - i) (by omega))
        repeat (with_reducible first | refine W_seq ?_ | refine W_block ?_ | refine W_skip ?_ | refine W_ret ?_ | refine W_exit ?_ | refine thenQ_normal ?_ | refine thenQ_exit ?_ | refine thenQ_ret ?_ | refine blockQ_normal ?_ | refine blockQ_ret ?_ | refine blockQ_same ?_ | refine blockQ_other rfl ?_)
        refine W_drw (fun _ => false) [(0, true), (1, true), (2, true), (3, true), (4, true), (5, true), (6, true), (7, true), (8, true), (9, true), (10, true), (11, true), (12, true), (13, true), (14, false), (15, true)] NoS mixed (by kernel_rfl) ?_; intro gd K x hgd hx hxe hK; clear hxe
        have hla' := fun j h => cellO_ext (hE.trans hx) (hla j h)
        have hlb' := fun j h => cellO_ext (hE.trans hx) (hlb j h)
        have e1 : ((xs.length : Int) - (i + 1)).toNat = xs.length - 1 - i := by omega
        have e2 : ((ys.length : Int) - (i + 1)).toNat = ys.length - 1 - i := by omega
        simp (disch := first | omega | assumption) only [↓reduceIte, go_sem, Nat.reduceLT, Nat.reduceEqDiff, Nat.reduceSub, h5, h0, h1, e1, e2, hla', hlb', List.getElem_map]
        refine Fn.mono (RCompareLabel_ok _ _ _ (LB.get ‹LB xs› _) (LB.get ‹LB ys› _)) ?_
        rintro _ x1 ⟨rfl, hx1⟩
        refine ⟨.inr hx1, ?_⟩
        simp (disch := first | omega | assumption | rfl) only [↓reduceIte, go_sem, Nat.reduceLT, Nat.reduceEqDiff, Nat.reduceSub]
        refine hK _ _ ?_; clear hK hgd; clear K; try clear gd
        have hst := cmpR_step (a := (foldN xs).reverse) (b := (foldN ys).reverse) (i := i) (by simp [foldN_len]; omega) (by simp [foldN_len]; omega)
        have g1 : (foldN xs).reverse[i]'(by simp [foldN_len]; omega) = foldL (xs[xs.length - 1 - i]'(by omega)) := by
          rw [List.getElem_reverse]; simp [foldN]
        have g2 : (foldN ys).reverse[i]'(by simp [foldN_len]; omega) = foldL (ys[ys.length - 1 - i]'(by omega)) := by
          rw [List.getElem_reverse]; simp [foldN]
        rw [g1, g2] at hst
        repeat (with_reducible first | refine W_seq ?_ | refine W_block ?_ | refine W_skip ?_ | refine W_ret ?_ | refine W_exit ?_ | refine thenQ_normal ?_ | refine thenQ_exit ?_ | refine thenQ_ret ?_ | refine blockQ_normal ?_ | refine blockQ_ret ?_ | refine blockQ_same ?_ | refine blockQ_other rfl ?_)
        refine W_reg (by rfl) ?_; intro gd K hgd hK; simp (disch := first | omega | assumption | rfl) only [↓reduceIte, go_sem, Nat.reduceLT, Nat.reduceEqDiff, Nat.reduceSub]; refine hK _ _ ?_; clear hK hgd; clear K gd
        repeat (with_reducible first | refine W_seq ?_ | refine W_block ?_ | refine W_skip ?_ | refine W_ret ?_ | refine W_exit ?_ | refine thenQ_normal ?_ | refine thenQ_exit ?_ | refine thenQ_ret ?_ | refine blockQ_normal ?_ | refine blockQ_ret ?_ | refine blockQ_same ?_ | refine blockQ_other rfl ?_)
        refine W_cond (by simp only [↓reduceIte, go_sem, Nat.reduceLT, Nat.reduceEqDiff, Nat.reduceSub]; rfl) ?_ ?_
        · intro hne
          simp only [Bool.not_eq_true', decide_eq_false_iff_not] at hne
          repeat (first | (with_reducible first | refine W_seq ?_ | refine W_block ?_ | refine W_skip ?_ | refine W_ret ?_ | refine W_exit ?_ | refine thenQ_normal ?_ | refine thenQ_exit ?_ | refine thenQ_ret ?_ | refine blockQ_normal ?_ | refine blockQ_ret ?_ | refine blockQ_same ?_ | refine blockQ_other rfl ?_) | (refine W_reg (by rfl) ?_; intro gd K hgd hK; simp (disch := first | omega | assumption | rfl) only [↓reduceIte, go_sem, Nat.reduceLT, Nat.reduceEqDiff, Nat.reduceSub]; refine hK _ _ ?_; clear hK hgd; clear K gd))
          refine ret_one (by simp) rfl Try.ntmps53 (by simp only [↓reduceIte, go_sem, Nat.reduceLT, Nat.reduceEqDiff, Nat.reduceSub]; rfl) ?_
          refine ⟨by rw [hinv, hst, if_neg hne], (hE.trans hx).trans hx1⟩
        · intro heq
          simp only [Bool.not_eq_false', decide_eq_true_eq] at heq
          repeat (with_reducible first | refine W_seq ?_ | refine W_block ?_ | refine W_skip ?_ | refine W_ret ?_ | refine W_exit ?_ | refine thenQ_normal ?_ | refine thenQ_exit ?_ | refine thenQ_ret ?_ | refine blockQ_normal ?_ | refine blockQ_ret ?_ | refine blockQ_same ?_ | refine blockQ_other rfl ?_)
          refine W_reg (by rfl) ?_; intro gd K hgd hK
          try simp (disch := first | omega | assumption | rfl) only [↓reduceIte, go_sem, Nat.reduceLT, Nat.reduceEqDiff, Nat.reduceSub, h5]
          refine hK _ _ ?_; clear hK hgd; clear K; try clear gd
          repeat (with_reducible first | refine W_seq ?_ | refine W_block ?_ | refine W_skip ?_ | refine W_ret ?_ | refine W_exit ?_ | refine thenQ_normal ?_ | refine thenQ_exit ?_ | refine thenQ_ret ?_ | refine blockQ_normal ?_ | refine blockQ_ret ?_ | refine blockQ_same ?_ | refine blockQ_other rfl ?_)
          refine ⟨m - 1, by omega, rfl, i + 1, by omega, by omega, ?_, ?_, ?_, (hE.trans hx).trans hx1, ?_⟩
          · simp only [↓reduceIte, go_sem, Nat.reduceLT, Nat.reduceEqDiff, Nat.reduceSub]; push_cast; rfl
          · simp only [↓reduceIte, go_sem, Nat.reduceLT, Nat.reduceEqDiff, Nat.reduceSub, h0]
          · simp only [↓reduceIte, go_sem, Nat.reduceLT, Nat.reduceEqDiff, Nat.reduceSub, h1]
          · rw [hinv, hst, if_pos heq]
      · intro hge
        simp only [decide_eq_false_iff_not] at hge
        repeat (with_reducible first | refine W_seq ?_ | refine W_block ?_ | refine W_skip ?_ | refine W_ret ?_ | refine W_exit ?_ | refine thenQ_normal ?_ | refine thenQ_exit ?_ | refine thenQ_ret ?_ | refine blockQ_normal ?_ | refine blockQ_ret ?_ | refine blockQ_same ?_ | refine blockQ_other rfl ?_)
        refine W_reg (by rfl) ?_; intro gd K hgd hK
        try simp (disch := first | omega | assumption | rfl) only [↓reduceIte, go_sem, Nat.reduceLT, Nat.reduceEqDiff, Nat.reduceSub, h0, h1]
        refine Fn.mono (RSign_ok _ _) ?_
        rintro _ w2 ⟨rfl, hE2⟩
        try simp (disch := first | omega | assumption | rfl) only [↓reduceIte, go_sem, Nat.reduceLT, Nat.reduceEqDiff, Nat.reduceSub]
        refine hK _ _ ?_; clear hK hgd; clear K; try clear gd
        repeat (with_reducible first | refine W_seq ?_ | refine W_block ?_ | refine W_skip ?_ | refine W_ret ?_ | refine W_exit ?_ | refine thenQ_normal ?_ | refine thenQ_exit ?_ | refine thenQ_ret ?_ | refine blockQ_normal ?_ | refine blockQ_ret ?_ | refine blockQ_same ?_ | refine blockQ_other rfl ?_)
        refine ret_one (by simp) rfl Try.ntmps53 (by simp only [↓reduceIte, go_sem, Nat.reduceLT, Nat.reduceEqDiff, Nat.reduceSub]; rfl) ?_
        exact ⟨by rw [hinv, hstep false (by simp; omega) rfl], hE.trans hE2⟩
    · try simp (disch := first | omega | assumption | rfl) only [↓reduceIte, go_sem, Nat.reduceLT, Nat.reduceEqDiff, Nat.reduceSub, h5, h0, h1, decide_eq_false hlx, ↓hg4]
      refine hK _ _ ?_; clear hK hgd; clear K; try clear gd
      repeat (with_reducible first | refine W_seq ?_ | refine W_block ?_ | refine W_skip ?_ | refine W_ret ?_ | refine W_exit ?_ | refine thenQ_normal ?_ | refine thenQ_exit ?_ | refine thenQ_ret ?_ | refine blockQ_normal ?_ | refine blockQ_ret ?_ | refine blockQ_same ?_ | refine blockQ_other rfl ?_)
      refine W_cond (by simp only [↓reduceIte, go_sem, Nat.reduceLT, Nat.reduceEqDiff, Nat.reduceSub]; rfl) ?_ ?_
      · intro h; simp at h
      · intro _
        repeat (with_reducible first | refine W_seq ?_ | refine W_block ?_ | refine W_skip ?_ | refine W_ret ?_ | refine W_exit ?_ | refine thenQ_normal ?_ | refine thenQ_exit ?_ | refine thenQ_ret ?_ | refine blockQ_normal ?_ | refine blockQ_ret ?_ | refine blockQ_same ?_ | refine blockQ_other rfl ?_)
        refine W_reg (by rfl) ?_; intro gd K hgd hK
        try simp (disch := first | omega | assumption | rfl) only [↓reduceIte, go_sem, Nat.reduceLT, Nat.reduceEqDiff, Nat.reduceSub, h0, h1]
        refine Fn.mono (RSign_ok _ _) ?_
        rintro _ w2 ⟨rfl, hE2⟩
        try simp (disch := first | omega | assumption | rfl) only [↓reduceIte, go_sem, Nat.reduceLT, Nat.reduceEqDiff, Nat.reduceSub]
        refine hK _ _ ?_; clear hK hgd; clear K; try clear gd
        repeat (with_reducible first | refine W_seq ?_ | refine W_block ?_ | refine W_skip ?_ | refine W_ret ?_ | refine W_exit ?_ | refine thenQ_normal ?_ | refine thenQ_exit ?_ | refine thenQ_ret ?_ | refine blockQ_normal ?_ | refine blockQ_ret ?_ | refine blockQ_same ?_ | refine blockQ_other rfl ?_)
        refine ret_one (by simp) rfl Try.ntmps53 (by simp only [↓reduceIte, go_sem, Nat.reduceLT, Nat.reduceEqDiff, Nat.reduceSub]; rfl) ?_
        exact ⟨by rw [hinv, hstep false (by simp; omega) rfl], hE.trans hE2⟩
end Go.Proofs.Ytciadbhnodgpgaa
