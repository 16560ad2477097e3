/-
  The contracts of names: alike, below, folded.
  Conditions: none.
-/
import Derived.Test.YtciadbhnodgpgaaC2
set_option linter.unusedVariables false
set_option linter.unusedSimpArgs false
set_option linter.defProp false
namespace Go.Proofs.Ytciadbhnodgpgaa
open Go
set_option maxRecDepth 10000

abbrev Nm := List (List UInt8)
def LB (n : Nm) : Prop := ∀ l ∈ n, l.length ≤ 9000000000000000000
theorem LB.get {n : Nm} (h : LB n) {i : Nat} (hi : i < n.length) : n[i].length ≤ 9000000000000000000 := h _ (List.getElem_mem hi)
def foldN (n : Nm) : Nm := n.map foldL
theorem foldN_len (n : Nm) : (foldN n).length = n.length := by simp [foldN]
theorem foldN_take {n : Nm} {i : Nat} (h : i < n.length) : foldN (n.take (i + 1)) = foldN (n.take i) ++ [foldL n[i]] := by
  rw [take_succ' h]; simp only [foldN, List.map_append, List.map_cons, List.map_nil]
theorem foldN_ne_len {a b : Nm} (h : a.length ≠ b.length) : foldN a ≠ foldN b := fun e => h (by rw [← foldN_len a, e, foldN_len])
theorem foldN_ne_at {a b : Nm} {i : Nat} (ha : i < a.length) (hb : i < b.length) (h : foldL a[i] ≠ foldL b[i]) : foldN a ≠ foldN b := by
  intro e
  apply h
  have := congrArg (fun l : Nm => l[i]?) e
  simpa [foldN, ha, hb] using this
theorem vs_inj {a b : List UInt8} : vs a = vs b ↔ a = b := by
  constructor
  · intro h; simpa [vs] using h
  · rintro rfl; rfl

theorem RSame_ok (w : World) (a b : Value) (xs ys : List (List UInt8)) (ha : Row w a (xs.map vs)) (hb : Row w b (ys.map vs)) (hx : LB xs) (hy : LB ys) (hxl : xs.length ≤ 9000000000000000000) (hyl : ys.length ≤ 9000000000000000000) :
    Fn Try.prog 14 #[a, b] w (fun v w' => v = .bool (decide (foldN xs = foldN ys)) ∧ Ext w w') := by
  obtain ⟨a, ca, rfl, hca, hla⟩ := ha
  obtain ⟨b, cb, rfl, hcb, hlb⟩ := hb
  simp only [List.length_map] at *
  refine enter Try.func14 Try.ntmps14 rfl rfl ?_
  repeat (first | (with_reducible first | refine W_seq ?_ | refine W_block ?_ | refine W_skip ?_ | refine W_ret ?_ | refine W_exit ?_ | refine thenQ_normal ?_ | refine thenQ_exit ?_ | refine thenQ_ret ?_ | refine blockQ_normal ?_ | refine blockQ_ret ?_ | refine blockQ_same ?_ | refine blockQ_other rfl ?_) | (refine W_reg (by rfl) ?_; intro gd K hgd hK; simp (disch := first | omega | assumption | rfl) only [↓reduceIte, go_sem, Nat.reduceLT, Nat.reduceEqDiff, Nat.reduceSub]; refine hK _ _ ?_; clear hK hgd; clear K gd))
  refine W_cond (t := !decide ((xs.length : Int) = ys.length)) (by simp only [↓reduceIte, go_sem, Nat.reduceLT, Nat.reduceEqDiff, Nat.reduceSub]) ?_ ?_
  · intro ht
    repeat (first | (with_reducible first | refine W_seq ?_ | refine W_block ?_ | refine W_skip ?_ | refine W_ret ?_ | refine W_exit ?_ | refine thenQ_normal ?_ | refine thenQ_exit ?_ | refine thenQ_ret ?_ | refine blockQ_normal ?_ | refine blockQ_ret ?_ | refine blockQ_same ?_ | refine blockQ_other rfl ?_) | (refine W_reg (by rfl) ?_; intro gd K hgd hK; simp (disch := first | omega | assumption | rfl) only [↓reduceIte, go_sem, Nat.reduceLT, Nat.reduceEqDiff, Nat.reduceSub]; refine hK _ _ ?_; clear hK hgd; clear K gd))
    refine ret_one (by simp) rfl Try.ntmps14 (by simp only [↓reduceIte, go_sem, Nat.reduceLT, Nat.reduceEqDiff, Nat.reduceSub]; rfl) ?_
    exact ⟨by rw [decide_eq_false (foldN_ne_len (by simp at ht; omega))], Keep.refl _ _⟩
  · intro ht
    repeat (first | (with_reducible first | refine W_seq ?_ | refine W_block ?_ | refine W_skip ?_ | refine W_ret ?_ | refine W_exit ?_ | refine thenQ_normal ?_ | refine thenQ_exit ?_ | refine thenQ_ret ?_ | refine blockQ_normal ?_ | refine blockQ_ret ?_ | refine blockQ_same ?_ | refine blockQ_other rfl ?_) | (refine W_reg (by rfl) ?_; intro gd K hgd hK; simp (disch := first | omega | assumption | rfl) only [↓reduceIte, go_sem, Nat.reduceLT, Nat.reduceEqDiff, Nat.reduceSub]; refine hK _ _ ?_; clear hK hgd; clear K gd))
    refine W_loop (fun m σ ds v => ds = [] ∧ ∃ i, i + m = xs.length ∧ σ 5 = vi i ∧ σ 0 = .slice a xs.length ca ∧ σ 1 = .slice b ys.length cb ∧ Ext w v ∧ foldN (xs.take i) = foldN (ys.take i)) xs.length ?_ ?_
    · refine ⟨rfl, 0, by omega, ?_, ?_, ?_, Keep.refl _ _, by simp [foldN]⟩ <;> simp only [↓reduceIte, go_sem, Nat.reduceLT, Nat.reduceEqDiff, Nat.reduceSub] <;> rfl
    · rintro m σ ds v ⟨rfl, i, him, h5, h0, h1, hE, hpre⟩
      refine W_seq ?_
      refine W_seq ?_
      refine W_reg (by rfl) ?_; intro gd K hgd hK
      simp only [↓reduceIte, go_sem, Nat.reduceLT, Nat.reduceEqDiff, Nat.reduceSub, h5, h0, h1]
      refine hK _ _ ?_; clear hK hgd; clear K; try clear gd
      refine W_cond (t := decide ((i : Int) < xs.length)) (by simp only [↓reduceIte, go_sem, Nat.reduceLT, Nat.reduceEqDiff, Nat.reduceSub]) ?_ ?_
      · intro hlt
        simp only [decide_eq_true_eq] at hlt
        repeat (with_reducible first | refine W_seq ?_ | refine W_block ?_ | refine W_skip ?_ | refine W_ret ?_ | refine W_exit ?_ | refine thenQ_normal ?_ | refine thenQ_exit ?_ | refine thenQ_ret ?_ | refine blockQ_normal ?_ | refine blockQ_ret ?_ | refine blockQ_same ?_ | refine blockQ_other rfl ?_)
        refine W_drw (fun _ => false) [(0, true), (1, true), (2, true), (3, true), (5, true), (6, true), (7, true), (8, true), (4, false), (9, false), (10, true)] NoS mixed (by kernel_rfl) ?_; intro gd K x hgd hx hxe hK; clear hxe
        have hsa : a.isSome = true := some_of_cellO (hla i (by omega))
        have hsb : b.isSome = true := some_of_cellO (hlb i (by simp at ht; omega))
        have hla' := fun j h => cellO_ext (hE.trans hx) (hla j h)
        have hlb' := fun j h => cellO_ext (hE.trans hx) (hlb j h)
        have hxy : xs.length = ys.length := by simp at ht; omega
        clear ht
        simp (disch := first | omega | assumption) only [↓reduceIte, go_sem, Nat.reduceLT, Nat.reduceEqDiff, Nat.reduceSub, h5, h0, h1, hla', hlb', List.getElem_map]
        refine Fn.mono (RFoldLabel_ok _ _ (LB.get ‹LB _› _)) ?_
        rintro _ x1 ⟨rfl, hx1⟩
        refine ⟨.inr hx1, ?_⟩
        simp (disch := first | omega | assumption | rfl) only [↓reduceIte, go_sem, Nat.reduceLT, Nat.reduceEqDiff, Nat.reduceSub]
        refine Fn.mono (RFoldLabel_ok _ _ (LB.get ‹LB _› _)) ?_
        rintro _ x2 ⟨rfl, hx2⟩
        refine ⟨.inr hx2, ?_⟩
        simp only [↓reduceIte, go_sem, Nat.reduceLT, Nat.reduceEqDiff, Nat.reduceSub]
        refine hK _ _ ?_; clear hK hgd; clear K; try clear gd
        repeat (with_reducible first | refine W_seq ?_ | refine W_block ?_ | refine W_skip ?_ | refine W_ret ?_ | refine W_exit ?_ | refine thenQ_normal ?_ | refine thenQ_exit ?_ | refine thenQ_ret ?_ | refine blockQ_normal ?_ | refine blockQ_ret ?_ | refine blockQ_same ?_ | refine blockQ_other rfl ?_)
        refine W_cond (by simp only [↓reduceIte, go_sem, Nat.reduceLT, Nat.reduceEqDiff, Nat.reduceSub]; rfl) ?_ ?_
        · intro hne
          simp only [Bool.not_eq_true', decide_eq_false_iff_not] at hne
          repeat (first | (with_reducible first | refine W_seq ?_ | refine W_block ?_ | refine W_skip ?_ | refine W_ret ?_ | refine W_exit ?_ | refine thenQ_normal ?_ | refine thenQ_exit ?_ | refine thenQ_ret ?_ | refine blockQ_normal ?_ | refine blockQ_ret ?_ | refine blockQ_same ?_ | refine blockQ_other rfl ?_) | (refine W_reg (by rfl) ?_; intro gd K hgd hK; simp (disch := first | omega | assumption | rfl) only [↓reduceIte, go_sem, Nat.reduceLT, Nat.reduceEqDiff, Nat.reduceSub]; refine hK _ _ ?_; clear hK hgd; clear K gd))
          refine ret_one (by simp) rfl Try.ntmps14 (by simp only [↓reduceIte, go_sem, Nat.reduceLT, Nat.reduceEqDiff, Nat.reduceSub]; rfl) ?_
          exact ⟨by rw [decide_eq_false (foldN_ne_at (i := i) (by omega) (by omega) hne)], ((hE.trans hx).trans hx1).trans hx2⟩
        · intro heq
          simp only [Bool.not_eq_false', decide_eq_true_eq] at heq
          repeat (with_reducible first | refine W_seq ?_ | refine W_block ?_ | refine W_skip ?_ | refine W_ret ?_ | refine W_exit ?_ | refine thenQ_normal ?_ | refine thenQ_exit ?_ | refine thenQ_ret ?_ | refine blockQ_normal ?_ | refine blockQ_ret ?_ | refine blockQ_same ?_ | refine blockQ_other rfl ?_)
          refine W_reg (by rfl) ?_; intro gd K hgd hK
          simp (disch := first | omega | assumption) only [↓reduceIte, go_sem, Nat.reduceLT, Nat.reduceEqDiff, Nat.reduceSub, h5, h0, h1]
          refine hK _ _ ?_; clear hK hgd; clear K; try clear gd
          refine thenQ_normal ?_
          refine ⟨m - 1, by omega, rfl, i + 1, by omega, ?_, ?_, ?_, ((hE.trans hx).trans hx1).trans hx2, ?_⟩
          · simp only [↓reduceIte, go_sem, Nat.reduceLT, Nat.reduceEqDiff, Nat.reduceSub]; rfl
          · simp only [↓reduceIte, go_sem, Nat.reduceLT, Nat.reduceEqDiff, Nat.reduceSub, h0]
          · simp only [↓reduceIte, go_sem, Nat.reduceLT, Nat.reduceEqDiff, Nat.reduceSub, h1]
          · rw [foldN_take (by omega), foldN_take (by omega), hpre, heq]
      · intro hge
        simp only [decide_eq_false_iff_not] at hge
        repeat (first | (with_reducible first | refine W_seq ?_ | refine W_block ?_ | refine W_skip ?_ | refine W_ret ?_ | refine W_exit ?_ | refine thenQ_normal ?_ | refine thenQ_exit ?_ | refine thenQ_ret ?_ | refine blockQ_normal ?_ | refine blockQ_ret ?_ | refine blockQ_same ?_ | refine blockQ_other rfl ?_) | (refine W_reg (by rfl) ?_; intro gd K hgd hK; simp (disch := first | omega | assumption | rfl) only [↓reduceIte, go_sem, Nat.reduceLT, Nat.reduceEqDiff, Nat.reduceSub]; refine hK _ _ ?_; clear hK hgd; clear K gd))
        refine ret_one (by simp) rfl Try.ntmps14 (by simp only [↓reduceIte, go_sem, Nat.reduceLT, Nat.reduceEqDiff, Nat.reduceSub]; rfl) ?_
        refine ⟨?_, hE⟩
        rw [List.take_of_length_le (by omega), List.take_of_length_le (by simp at ht; omega)] at hpre
        rw [decide_eq_true hpre]

theorem Row.cut {w : World} {a : Option Addr} {n c : Nat} {l : List Value} (hn : n = l.length) (hc : n ≤ c) (hl : ∀ j (h : j < l.length), cellO w (adr a j) = some l[j]) {lo hi : Nat} (h1 : lo ≤ hi) (h2 : hi ≤ n) :
    Row w (.slice (if c = lo then a else adr a lo) (hi - lo) (c - lo)) ((l.drop lo).take (hi - lo)) := by
  have hlen : ((l.drop lo).take (hi - lo)).length = hi - lo := by simp; omega
  refine ⟨_, _, by rw [hlen], by omega, fun j hj => ?_⟩
  rw [hlen] at hj
  rw [if_neg (by omega), adr_adr, hl (lo + j) (by omega)]
  simp

theorem Row.tail {w : World} {a : Option Addr} {n c : Nat} {l : List Value} (hn : n = l.length) (hc : n ≤ c) (hl : ∀ j (h : j < l.length), cellO w (adr a j) = some l[j]) {lo : Nat} (h2 : lo ≤ n) :
    Row w (.slice (if c = lo then a else adr a lo) (n - lo) (c - lo)) (l.drop lo) := by
  have := Row.cut hn hc hl h2 (Nat.le_refl _)
  rwa [List.take_of_length_le (by simp; omega)] at this

/-- is a name another one's, or below it? -/
def under (n z : Nm) : Bool := decide (z.length ≤ n.length) && decide (foldN (n.drop (n.length - z.length)) = foldN z)

theorem LB.drop {n : Nm} (h : LB n) (k : Nat) : LB (n.drop k) := fun l hl => h l (List.drop_subset _ _ hl)

theorem RUnder_ok (w : World) (a b : Value) (xs ys : Nm) (ha : Row w a (xs.map vs)) (hb : Row w b (ys.map vs)) (hx : LB xs) (hy : LB ys) (hxl : xs.length ≤ 9000000000000000000) (hyl : ys.length ≤ 9000000000000000000) :
    Fn Try.prog 17 #[a, b] w (fun v w' => v = .bool (under xs ys) ∧ Ext w w') := by
  have hb0 := hb
  obtain ⟨a, ca, rfl, hca, hla⟩ := ha
  obtain ⟨b, cb, rfl, hcb, hlb⟩ := hb
  simp only [List.length_map] at *
  refine enter Try.func17 Try.ntmps17 rfl rfl ?_
  repeat (with_reducible first | refine W_seq ?_ | refine W_block ?_ | refine W_skip ?_ | refine W_ret ?_ | refine W_exit ?_ | refine thenQ_normal ?_ | refine thenQ_exit ?_ | refine thenQ_ret ?_ | refine blockQ_normal ?_ | refine blockQ_ret ?_ | refine blockQ_same ?_ | refine blockQ_other rfl ?_)
  refine W_reg (by rfl) ?_; intro gd K hgd hK; simp (disch := first | omega | assumption | rfl) only [↓reduceIte, go_sem, Nat.reduceLT, Nat.reduceEqDiff, Nat.reduceSub]; refine hK _ _ ?_; clear hK hgd; clear K gd
  repeat (with_reducible first | refine W_seq ?_ | refine W_block ?_ | refine W_skip ?_ | refine W_ret ?_ | refine W_exit ?_ | refine thenQ_normal ?_ | refine thenQ_exit ?_ | refine thenQ_ret ?_ | refine blockQ_normal ?_ | refine blockQ_ret ?_ | refine blockQ_same ?_ | refine blockQ_other rfl ?_)
  refine W_reg (by rfl) ?_; intro gd K hgd hK
  have hg5 : ∀ n σ b, wantV gd n σ (some (5, b)) = boolIs (ev n σ (.tmp 10)) b := (fun n σ b => by rw [wantV_some, show gd 5 = some 10 from (by rw [hgd]; rfl)]; rfl)
  by_cases h : (ys.length : Int) ≤ xs.length
  · try simp (disch := first | omega | assumption | rfl) only [↓reduceIte, go_sem, Nat.reduceLT, Nat.reduceEqDiff, Nat.reduceSub, decide_eq_true h, ↓hg5]
    have hd : ((xs.length : Int) - ys.length).toNat = xs.length - ys.length := by omega
    have hcut := Row.tail (l := xs.map vs) (by simp) hca (fun j hj => by rw [hla j (by simpa using hj)]) (lo := xs.length - ys.length) (by omega)
    rw [← List.map_drop] at hcut
    rw [hd]
    refine Fn.mono (RSame_ok w _ _ _ _ hcut hb0 (hx.drop _) hy (by simp; omega) hyl) ?_
    rintro _ w1 ⟨rfl, hE⟩
    try simp (disch := first | omega | assumption | rfl) only [↓reduceIte, go_sem, Nat.reduceLT, Nat.reduceEqDiff, Nat.reduceSub, decide_eq_true h, ↓hg5]
    refine hK _ _ ?_; clear hK hgd; clear K; try clear gd
    repeat (with_reducible first | refine W_seq ?_ | refine W_block ?_ | refine W_skip ?_ | refine W_ret ?_ | refine W_exit ?_ | refine thenQ_normal ?_ | refine thenQ_exit ?_ | refine thenQ_ret ?_ | refine blockQ_normal ?_ | refine blockQ_ret ?_ | refine blockQ_same ?_ | refine blockQ_other rfl ?_)
    refine ret_one (by simp) rfl Try.ntmps17 (by simp only [↓reduceIte, go_sem, Nat.reduceLT, Nat.reduceEqDiff, Nat.reduceSub]; rfl) ?_
    exact ⟨by simp [under]; omega, hE⟩
  · try simp (disch := first | omega | assumption | rfl) only [↓reduceIte, go_sem, Nat.reduceLT, Nat.reduceEqDiff, Nat.reduceSub, decide_eq_false h, ↓hg5]
    refine hK _ _ ?_; clear hK hgd; clear K; try clear gd
    repeat (with_reducible first | refine W_seq ?_ | refine W_block ?_ | refine W_skip ?_ | refine W_ret ?_ | refine W_exit ?_ | refine thenQ_normal ?_ | refine thenQ_exit ?_ | refine thenQ_ret ?_ | refine blockQ_normal ?_ | refine blockQ_ret ?_ | refine blockQ_same ?_ | refine blockQ_other rfl ?_)
    refine ret_one (by simp) rfl Try.ntmps17 (by simp only [↓reduceIte, go_sem, Nat.reduceLT, Nat.reduceEqDiff, Nat.reduceSub]; rfl) ?_
    exact ⟨by simp [under]; omega, Keep.refl _ _⟩

theorem LSame_ok (w : World) (a b : List UInt8) (ha : a.length ≤ 9000000000000000000) (hb : b.length ≤ 9000000000000000000) : Fn Try.prog 62 #[vs a, vs b] w (fun v w' => v = .bool (decide (foldL a = foldL b)) ∧ Ext w w') := by
  refine enter Try.func62 Try.ntmps62 rfl rfl ?_
  repeat (with_reducible first | refine W_seq ?_ | refine W_block ?_ | refine W_skip ?_ | refine W_ret ?_ | refine W_exit ?_ | refine thenQ_normal ?_ | refine thenQ_exit ?_ | refine thenQ_ret ?_ | refine blockQ_normal ?_ | refine blockQ_ret ?_ | refine blockQ_same ?_ | refine blockQ_other rfl ?_)
  refine W_reg (by rfl) ?_; intro gd K hgd hK; simp (disch := first | omega | assumption | rfl) only [↓reduceIte, go_sem, Nat.reduceLT, Nat.reduceEqDiff, Nat.reduceSub]; refine hK _ _ ?_; clear hK hgd; clear K gd
  repeat (with_reducible first | refine W_seq ?_ | refine W_block ?_ | refine W_skip ?_ | refine W_ret ?_ | refine W_exit ?_ | refine thenQ_normal ?_ | refine thenQ_exit ?_ | refine thenQ_ret ?_ | refine blockQ_normal ?_ | refine blockQ_ret ?_ | refine blockQ_same ?_ | refine blockQ_other rfl ?_)
  refine W_reg (by rfl) ?_; intro gd K hgd hK
  try simp (disch := first | omega | assumption | rfl) only [↓reduceIte, go_sem, Nat.reduceLT, Nat.reduceEqDiff, Nat.reduceSub]
  refine Fn.mono (LFold_ok _ _ ha) ?_
  rintro _ w1 ⟨rfl, hE1⟩
  try simp (disch := first | omega | assumption | rfl) only [↓reduceIte, go_sem, Nat.reduceLT, Nat.reduceEqDiff, Nat.reduceSub]
  refine Fn.mono (LFold_ok _ _ hb) ?_
  rintro _ w2 ⟨rfl, hE2⟩
  try simp (disch := first | omega | assumption | rfl) only [↓reduceIte, go_sem, Nat.reduceLT, Nat.reduceEqDiff, Nat.reduceSub]
  refine hK _ _ ?_; clear hK hgd; clear K; try clear gd
  repeat (with_reducible first | refine W_seq ?_ | refine W_block ?_ | refine W_skip ?_ | refine W_ret ?_ | refine W_exit ?_ | refine thenQ_normal ?_ | refine thenQ_exit ?_ | refine thenQ_ret ?_ | refine blockQ_normal ?_ | refine blockQ_ret ?_ | refine blockQ_same ?_ | refine blockQ_other rfl ?_)
  refine ret_one (by simp) rfl Try.ntmps62 (by simp only [↓reduceIte, go_sem, Nat.reduceLT, Nat.reduceEqDiff, Nat.reduceSub]; rfl) ?_
  exact ⟨rfl, hE1.trans hE2⟩

theorem EqualFunc_ok (w : World) (a b : Value) (xs ys : Nm) (ha : Row w a (xs.map vs)) (hb : Row w b (ys.map vs)) (hx : LB xs) (hy : LB ys) (hxl : xs.length ≤ 9000000000000000000) (hyl : ys.length ≤ 9000000000000000000) :
    Fn Try.prog 61 #[a, b, .func (.func 62) #[] #[]] w (fun v w' => v = .bool (decide (foldN xs = foldN ys)) ∧ Ext w w') := by
  obtain ⟨a, ca, rfl, hca, hla⟩ := ha
  obtain ⟨b, cb, rfl, hcb, hlb⟩ := hb
  simp only [List.length_map] at *
  refine enter Try.func61 Try.ntmps61 rfl rfl ?_
  repeat (first | (with_reducible first | refine W_seq ?_ | refine W_block ?_ | refine W_skip ?_ | refine W_ret ?_ | refine W_exit ?_ | refine thenQ_normal ?_ | refine thenQ_exit ?_ | refine thenQ_ret ?_ | refine blockQ_normal ?_ | refine blockQ_ret ?_ | refine blockQ_same ?_ | refine blockQ_other rfl ?_) | (refine W_reg (by rfl) ?_; intro gd K hgd hK; simp (disch := first | omega | assumption | rfl) only [↓reduceIte, go_sem, Nat.reduceLT, Nat.reduceEqDiff, Nat.reduceSub]; refine hK _ _ ?_; clear hK hgd; clear K gd))
  refine W_cond (t := !decide ((xs.length : Int) = ys.length)) (by simp only [↓reduceIte, go_sem, Nat.reduceLT, Nat.reduceEqDiff, Nat.reduceSub]) ?_ ?_
  · intro ht
    repeat (first | (with_reducible first | refine W_seq ?_ | refine W_block ?_ | refine W_skip ?_ | refine W_ret ?_ | refine W_exit ?_ | refine thenQ_normal ?_ | refine thenQ_exit ?_ | refine thenQ_ret ?_ | refine blockQ_normal ?_ | refine blockQ_ret ?_ | refine blockQ_same ?_ | refine blockQ_other rfl ?_) | (refine W_reg (by rfl) ?_; intro gd K hgd hK; simp (disch := first | omega | assumption | rfl) only [↓reduceIte, go_sem, Nat.reduceLT, Nat.reduceEqDiff, Nat.reduceSub]; refine hK _ _ ?_; clear hK hgd; clear K gd))
    refine ret_one (by simp) rfl Try.ntmps61 (by simp only [↓reduceIte, go_sem, Nat.reduceLT, Nat.reduceEqDiff, Nat.reduceSub]; rfl) ?_
    exact ⟨by rw [decide_eq_false (foldN_ne_len (by simp at ht; omega))], Keep.refl _ _⟩
  · intro ht
    have hxy : xs.length = ys.length := by simp at ht; omega
    clear ht
    repeat (first | (with_reducible first | refine W_seq ?_ | refine W_block ?_ | refine W_skip ?_ | refine W_ret ?_ | refine W_exit ?_ | refine thenQ_normal ?_ | refine thenQ_exit ?_ | refine thenQ_ret ?_ | refine blockQ_normal ?_ | refine blockQ_ret ?_ | refine blockQ_same ?_ | refine blockQ_other rfl ?_) | (refine W_reg (by rfl) ?_; intro gd K hgd hK; simp (disch := first | omega | assumption | rfl) only [↓reduceIte, go_sem, Nat.reduceLT, Nat.reduceEqDiff, Nat.reduceSub]; refine hK _ _ ?_; clear hK hgd; clear K gd))
    refine W_loop (fun m σ ds v => ds = [] ∧ ∃ i, i + m = xs.length ∧ σ 17 = vi i ∧ σ 16 = vi xs.length ∧ σ 15 = .slice a xs.length ca ∧ σ 1 = .slice b ys.length cb ∧ σ 2 = .func (.func 62) #[] #[] ∧ Ext w v ∧ foldN (xs.take i) = foldN (ys.take i)) xs.length ?_ ?_
    · refine ⟨rfl, 0, by omega, ?_, ?_, ?_, ?_, ?_, Keep.refl _ _, by simp [foldN]⟩ <;> simp only [↓reduceIte, go_sem, Nat.reduceLT, Nat.reduceEqDiff, Nat.reduceSub] <;> rfl
    · rintro m σ ds v ⟨rfl, i, him, h17, h16, h15, h1, h2, hE, hpre⟩
      repeat (with_reducible first | refine W_seq ?_ | refine W_block ?_ | refine W_skip ?_ | refine W_ret ?_ | refine W_exit ?_ | refine thenQ_normal ?_ | refine thenQ_exit ?_ | refine thenQ_ret ?_ | refine blockQ_normal ?_ | refine blockQ_ret ?_ | refine blockQ_same ?_ | refine blockQ_other rfl ?_)
      refine W_reg (by rfl) ?_; intro gd K hgd hK; simp (disch := first | omega | assumption | rfl) only [↓reduceIte, go_sem, Nat.reduceLT, Nat.reduceEqDiff, Nat.reduceSub, h17, h16]; refine hK _ _ ?_; clear hK hgd; clear K gd
      repeat (with_reducible first | refine W_seq ?_ | refine W_block ?_ | refine W_skip ?_ | refine W_ret ?_ | refine W_exit ?_ | refine thenQ_normal ?_ | refine thenQ_exit ?_ | refine thenQ_ret ?_ | refine blockQ_normal ?_ | refine blockQ_ret ?_ | refine blockQ_same ?_ | refine blockQ_other rfl ?_)
      refine W_cond (by simp only [↓reduceIte, go_sem, Nat.reduceLT, Nat.reduceEqDiff, Nat.reduceSub]; rfl) ?_ ?_
      · intro hlt
        simp only [decide_eq_true_eq] at hlt
        have hsa : a.isSome = true := some_of_cellO (hla i (by omega))
        have hsb : b.isSome = true := some_of_cellO (hlb i (by omega))
        have hla' := fun j h => cellO_ext hE (hla j h)
        have hlb' := fun j h => cellO_ext hE (hlb j h)
        repeat (first | (with_reducible first | refine W_seq ?_ | refine W_block ?_ | refine W_skip ?_ | refine W_ret ?_ | refine W_exit ?_ | refine thenQ_normal ?_ | refine thenQ_exit ?_ | refine thenQ_ret ?_ | refine blockQ_normal ?_ | refine blockQ_ret ?_ | refine blockQ_same ?_ | refine blockQ_other rfl ?_) | (refine W_reg (by rfl) ?_; intro gd K hgd hK; simp (disch := first | omega | assumption | rfl) only [↓reduceIte, go_sem, Nat.reduceLT, Nat.reduceEqDiff, Nat.reduceSub, h17, h15, h1, hla', hlb', List.getElem_map]; refine hK _ _ ?_; clear hK hgd; clear K gd))
        refine W_reg (by rfl) ?_; intro gd K hgd hK
        try simp (disch := first | omega | assumption | rfl) only [↓reduceIte, go_sem, Nat.reduceLT, Nat.reduceEqDiff, Nat.reduceSub, h2]
        refine Fn.mono (LSame_ok _ _ _ (LB.get hx _) (LB.get hy _)) ?_
        rintro _ x1 ⟨rfl, hx1⟩
        try simp (disch := first | omega | assumption | rfl) only [↓reduceIte, go_sem, Nat.reduceLT, Nat.reduceEqDiff, Nat.reduceSub]
        refine hK _ _ ?_; clear hK hgd; clear K; try clear gd
        repeat (with_reducible first | refine W_seq ?_ | refine W_block ?_ | refine W_skip ?_ | refine W_ret ?_ | refine W_exit ?_ | refine thenQ_normal ?_ | refine thenQ_exit ?_ | refine thenQ_ret ?_ | refine blockQ_normal ?_ | refine blockQ_ret ?_ | refine blockQ_same ?_ | refine blockQ_other rfl ?_)
        refine W_cond (by simp only [↓reduceIte, go_sem, Nat.reduceLT, Nat.reduceEqDiff, Nat.reduceSub]; rfl) ?_ ?_
        · intro hne
          simp only [Bool.not_eq_true', decide_eq_false_iff_not] at hne
          repeat (with_reducible first | refine W_seq ?_ | refine W_block ?_ | refine W_skip ?_ | refine W_ret ?_ | refine W_exit ?_ | refine thenQ_normal ?_ | refine thenQ_exit ?_ | refine thenQ_ret ?_ | refine blockQ_normal ?_ | refine blockQ_ret ?_ | refine blockQ_same ?_ | refine blockQ_other rfl ?_)
          refine W_reg (by rfl) ?_; intro gd K hgd hK; simp (disch := first | omega | assumption | rfl) only [↓reduceIte, go_sem, Nat.reduceLT, Nat.reduceEqDiff, Nat.reduceSub]; refine hK _ _ ?_; clear hK hgd; clear K gd
          repeat (with_reducible first | refine W_seq ?_ | refine W_block ?_ | refine W_skip ?_ | refine W_ret ?_ | refine W_exit ?_ | refine thenQ_normal ?_ | refine thenQ_exit ?_ | refine thenQ_ret ?_ | refine blockQ_normal ?_ | refine blockQ_ret ?_ | refine blockQ_same ?_ | refine blockQ_other rfl ?_)
          refine ret_one (by simp) rfl Try.ntmps61 (by simp only [↓reduceIte, go_sem, Nat.reduceLT, Nat.reduceEqDiff, Nat.reduceSub]; rfl) ?_
          exact ⟨by rw [decide_eq_false (foldN_ne_at (i := i) (by omega) (by omega) hne)], hE.trans hx1⟩
        · intro heq
          simp only [Bool.not_eq_false', decide_eq_true_eq] at heq
          repeat (with_reducible first | refine W_seq ?_ | refine W_block ?_ | refine W_skip ?_ | refine W_ret ?_ | refine W_exit ?_ | refine thenQ_normal ?_ | refine thenQ_exit ?_ | refine thenQ_ret ?_ | refine blockQ_normal ?_ | refine blockQ_ret ?_ | refine blockQ_same ?_ | refine blockQ_other rfl ?_)
          refine W_reg (by rfl) ?_; intro gd K hgd hK; simp (disch := first | omega | assumption | rfl) only [↓reduceIte, go_sem, Nat.reduceLT, Nat.reduceEqDiff, Nat.reduceSub, h17]; refine hK _ _ ?_; clear hK hgd; clear K gd
          refine thenQ_normal ?_
          refine ⟨m - 1, by omega, rfl, i + 1, by omega, ?_, ?_, ?_, ?_, ?_, hE.trans hx1, ?_⟩
          · simp only [↓reduceIte, go_sem, Nat.reduceLT, Nat.reduceEqDiff, Nat.reduceSub]; rfl
          · simp only [↓reduceIte, go_sem, Nat.reduceLT, Nat.reduceEqDiff, Nat.reduceSub, h16]
          · simp only [↓reduceIte, go_sem, Nat.reduceLT, Nat.reduceEqDiff, Nat.reduceSub, h15]
          · simp only [↓reduceIte, go_sem, Nat.reduceLT, Nat.reduceEqDiff, Nat.reduceSub, h1]
          · simp only [↓reduceIte, go_sem, Nat.reduceLT, Nat.reduceEqDiff, Nat.reduceSub, h2]
          · rw [foldN_take (by omega), foldN_take (by omega), hpre, heq]
      · intro hge
        simp only [decide_eq_false_iff_not] at hge
        repeat (first | (with_reducible first | refine W_seq ?_ | refine W_block ?_ | refine W_skip ?_ | refine W_ret ?_ | refine W_exit ?_ | refine thenQ_normal ?_ | refine thenQ_exit ?_ | refine thenQ_ret ?_ | refine blockQ_normal ?_ | refine blockQ_ret ?_ | refine blockQ_same ?_ | refine blockQ_other rfl ?_) | (refine W_reg (by rfl) ?_; intro gd K hgd hK; simp (disch := first | omega | assumption | rfl) only [↓reduceIte, go_sem, Nat.reduceLT, Nat.reduceEqDiff, Nat.reduceSub]; refine hK _ _ ?_; clear hK hgd; clear K gd))
        refine ret_one (by simp) rfl Try.ntmps61 (by simp only [↓reduceIte, go_sem, Nat.reduceLT, Nat.reduceEqDiff, Nat.reduceSub]; rfl) ?_
        refine ⟨?_, hE⟩
        rw [List.take_of_length_le (by omega), List.take_of_length_le (by omega)] at hpre
        rw [decide_eq_true hpre]

theorem Same_ok (w : World) (a b : Value) (xs ys : Nm) (ha : Row w a (xs.map vs)) (hb : Row w b (ys.map vs)) (hx : LB xs) (hy : LB ys) (hxl : xs.length ≤ 9000000000000000000) (hyl : ys.length ≤ 9000000000000000000) :
    Fn Try.prog 50 #[a, b] w (fun v w' => v = .bool (decide (foldN xs = foldN ys)) ∧ Ext w w') := by
  refine enter Try.func50 Try.ntmps50 rfl rfl ?_
  repeat (with_reducible first | refine W_seq ?_ | refine W_block ?_ | refine W_skip ?_ | refine W_ret ?_ | refine W_exit ?_ | refine thenQ_normal ?_ | refine thenQ_exit ?_ | refine thenQ_ret ?_ | refine blockQ_normal ?_ | refine blockQ_ret ?_ | refine blockQ_same ?_ | refine blockQ_other rfl ?_)
  refine W_reg (by rfl) ?_; intro gd K hgd hK; simp (disch := first | omega | assumption | rfl) only [↓reduceIte, go_sem, Nat.reduceLT, Nat.reduceEqDiff, Nat.reduceSub]; refine hK _ _ ?_; clear hK hgd; clear K gd
  repeat (with_reducible first | refine W_seq ?_ | refine W_block ?_ | refine W_skip ?_ | refine W_ret ?_ | refine W_exit ?_ | refine thenQ_normal ?_ | refine thenQ_exit ?_ | refine thenQ_ret ?_ | refine blockQ_normal ?_ | refine blockQ_ret ?_ | refine blockQ_same ?_ | refine blockQ_other rfl ?_)
  refine W_reg (by rfl) ?_; intro gd K hgd hK
  try simp (disch := first | omega | assumption | rfl) only [↓reduceIte, go_sem, Nat.reduceLT, Nat.reduceEqDiff, Nat.reduceSub]
  refine Fn.mono (EqualFunc_ok w _ _ _ _ ha hb hx hy hxl hyl) ?_
  rintro _ w1 ⟨rfl, hE⟩
  try simp (disch := first | omega | assumption | rfl) only [↓reduceIte, go_sem, Nat.reduceLT, Nat.reduceEqDiff, Nat.reduceSub]
  refine hK _ _ ?_; clear hK hgd; clear K; try clear gd
  repeat (with_reducible first | refine W_seq ?_ | refine W_block ?_ | refine W_skip ?_ | refine W_ret ?_ | refine W_exit ?_ | refine thenQ_normal ?_ | refine thenQ_exit ?_ | refine thenQ_ret ?_ | refine blockQ_normal ?_ | refine blockQ_ret ?_ | refine blockQ_same ?_ | refine blockQ_other rfl ?_)
  refine ret_one (by simp) rfl Try.ntmps50 (by simp only [↓reduceIte, go_sem, Nat.reduceLT, Nat.reduceEqDiff, Nat.reduceSub]; rfl) ?_
  exact ⟨rfl, hE⟩

theorem Under_ok (w : World) (a b : Value) (xs ys : Nm) (ha : Row w a (xs.map vs)) (hb : Row w b (ys.map vs)) (hx : LB xs) (hy : LB ys) (hxl : xs.length ≤ 9000000000000000000) (hyl : ys.length ≤ 9000000000000000000) :
    Fn Try.prog 29 #[a, b] w (fun v w' => v = .bool (under xs ys) ∧ Ext w w') := by
  have hb0 := hb
  obtain ⟨a, ca, rfl, hca, hla⟩ := ha
  obtain ⟨b, cb, rfl, hcb, hlb⟩ := hb
  simp only [List.length_map] at *
  refine enter Try.func29 Try.ntmps29 rfl rfl ?_
  repeat (with_reducible first | refine W_seq ?_ | refine W_block ?_ | refine W_skip ?_ | refine W_ret ?_ | refine W_exit ?_ | refine thenQ_normal ?_ | refine thenQ_exit ?_ | refine thenQ_ret ?_ | refine blockQ_normal ?_ | refine blockQ_ret ?_ | refine blockQ_same ?_ | refine blockQ_other rfl ?_)
  refine W_reg (by rfl) ?_; intro gd K hgd hK; simp (disch := first | omega | assumption | rfl) only [↓reduceIte, go_sem, Nat.reduceLT, Nat.reduceEqDiff, Nat.reduceSub]; refine hK _ _ ?_; clear hK hgd; clear K gd
  repeat (with_reducible first | refine W_seq ?_ | refine W_block ?_ | refine W_skip ?_ | refine W_ret ?_ | refine W_exit ?_ | refine thenQ_normal ?_ | refine thenQ_exit ?_ | refine thenQ_ret ?_ | refine blockQ_normal ?_ | refine blockQ_ret ?_ | refine blockQ_same ?_ | refine blockQ_other rfl ?_)
  refine W_reg (by rfl) ?_; intro gd K hgd hK
  have hg5 : ∀ n σ b, wantV gd n σ (some (5, b)) = boolIs (ev n σ (.tmp 10)) b := (fun n σ b => by rw [wantV_some, show gd 5 = some 10 from (by rw [hgd]; rfl)]; rfl)
  by_cases h : (ys.length : Int) ≤ xs.length
  · try simp (disch := first | omega | assumption | rfl) only [↓reduceIte, go_sem, Nat.reduceLT, Nat.reduceEqDiff, Nat.reduceSub, decide_eq_true h, ↓hg5]
    have hd : ((xs.length : Int) - ys.length).toNat = xs.length - ys.length := by omega
    have hcut := Row.tail (l := xs.map vs) (by simp) hca (fun j hj => by rw [hla j (by simpa using hj)]) (lo := xs.length - ys.length) (by omega)
    rw [← List.map_drop] at hcut
    rw [hd]
    refine Fn.mono (Same_ok w _ _ _ _ hcut hb0 (hx.drop _) hy (by simp; omega) hyl) ?_
    rintro _ w1 ⟨rfl, hE⟩
    try simp (disch := first | omega | assumption | rfl) only [↓reduceIte, go_sem, Nat.reduceLT, Nat.reduceEqDiff, Nat.reduceSub, decide_eq_true h, ↓hg5]
    refine hK _ _ ?_; clear hK hgd; clear K; try clear gd
    repeat (with_reducible first | refine W_seq ?_ | refine W_block ?_ | refine W_skip ?_ | refine W_ret ?_ | refine W_exit ?_ | refine thenQ_normal ?_ | refine thenQ_exit ?_ | refine thenQ_ret ?_ | refine blockQ_normal ?_ | refine blockQ_ret ?_ | refine blockQ_same ?_ | refine blockQ_other rfl ?_)
    refine ret_one (by simp) rfl Try.ntmps29 (by simp only [↓reduceIte, go_sem, Nat.reduceLT, Nat.reduceEqDiff, Nat.reduceSub]; rfl) ?_
    exact ⟨by simp [under]; omega, hE⟩
  · try simp (disch := first | omega | assumption | rfl) only [↓reduceIte, go_sem, Nat.reduceLT, Nat.reduceEqDiff, Nat.reduceSub, decide_eq_false h, ↓hg5]
    refine hK _ _ ?_; clear hK hgd; clear K; try clear gd
    repeat (with_reducible first | refine W_seq ?_ | refine W_block ?_ | refine W_skip ?_ | refine W_ret ?_ | refine W_exit ?_ | refine thenQ_normal ?_ | refine thenQ_exit ?_ | refine thenQ_ret ?_ | refine blockQ_normal ?_ | refine blockQ_ret ?_ | refine blockQ_same ?_ | refine blockQ_other rfl ?_)
    refine ret_one (by simp) rfl Try.ntmps29 (by simp only [↓reduceIte, go_sem, Nat.reduceLT, Nat.reduceEqDiff, Nat.reduceSub]; rfl) ?_
    exact ⟨by simp [under]; omega, Keep.refl _ _⟩

theorem Fold_ok (w : World) (a : Value) (xs : Nm) (ha : Row w a (xs.map vs)) (hx : LB xs) (hxl : xs.length ≤ 1000000000000) :
    Fn Try.prog 41 #[a] w (fun v w' => Row w' v ((foldN xs).map vs) ∧ Ext w w') := by
  obtain ⟨a, ca, rfl, hca, hla⟩ := ha
  simp only [List.length_map] at *
  refine enter Try.func41 Try.ntmps41 rfl rfl ?_
  repeat (with_reducible first | refine W_seq ?_ | refine W_block ?_ | refine W_skip ?_ | refine W_ret ?_ | refine W_exit ?_ | refine thenQ_normal ?_ | refine thenQ_exit ?_ | refine thenQ_ret ?_ | refine blockQ_normal ?_ | refine blockQ_ret ?_ | refine blockQ_same ?_ | refine blockQ_other rfl ?_)
  refine W_reg (by rfl) ?_; intro gd K hgd hK; simp (disch := first | omega | assumption | rfl) only [↓reduceIte, go_sem, Nat.reduceLT, Nat.reduceEqDiff, Nat.reduceSub]; refine hK _ _ ?_; clear hK hgd; clear K gd
  repeat (with_reducible first | refine W_seq ?_ | refine W_block ?_ | refine W_skip ?_ | refine W_ret ?_ | refine W_exit ?_ | refine thenQ_normal ?_ | refine thenQ_exit ?_ | refine thenQ_ret ?_ | refine blockQ_normal ?_ | refine blockQ_ret ?_ | refine blockQ_same ?_ | refine blockQ_other rfl ?_)
  refine W_reg (by rfl) ?_; intro gd K hgd hK
  try simp (disch := first | omega | assumption | rfl) only [↓reduceIte, go_sem, Nat.reduceLT, Nat.reduceEqDiff, Nat.reduceSub]
  refine op_makeSlice (n := xs.length) rfl rfl rfl rfl (by simp only [↓reduceIte, go_sem, Nat.reduceLT, Nat.reduceEqDiff, Nat.reduceSub]) (by simp only [↓reduceIte, go_sem, Nat.reduceLT, Nat.reduceEqDiff, Nat.reduceSub]) (by show 16 * _ ≤ _; omega) (by omega) rfl ?_
  try simp (disch := first | omega | assumption | rfl) only [↓reduceIte, go_sem, Nat.reduceLT, Nat.reduceEqDiff, Nat.reduceSub]
  refine hK _ _ ?_; clear hK hgd; clear K; try clear gd
  have hb1 := new_block w (.cells (madeCells #[vs []] xs.length) 9 (0, 0))
  have hE1 := Ext.alloc w (.cells (madeCells #[vs []] xs.length) 9 (0, 0))
  have hs1 := size_madeCells #[vs []] xs.length
  revert hb1 hE1 hs1
  generalize (madeCells #[vs []] xs.length) = cur1
  intro hb1 hE1 hs1
  repeat (first | (with_reducible first | refine W_seq ?_ | refine W_block ?_ | refine W_skip ?_ | refine W_ret ?_ | refine W_exit ?_ | refine thenQ_normal ?_ | refine thenQ_exit ?_ | refine thenQ_ret ?_ | refine blockQ_normal ?_ | refine blockQ_ret ?_ | refine blockQ_same ?_ | refine blockQ_other rfl ?_) | (refine W_reg (by rfl) ?_; intro gd K hgd hK; simp (disch := first | omega | assumption | rfl) only [↓reduceIte, go_sem, Nat.reduceLT, Nat.reduceEqDiff, Nat.reduceSub]; refine hK _ _ ?_; clear hK hgd; clear K gd))
  refine W_loop (fun m σ ds A => ds = [] ∧ ∃ i, i + m = xs.length ∧ σ 11 = vi i ∧ σ 10 = vi xs.length ∧ σ 9 = .slice a xs.length ca ∧ σ 3 = .slice (some ⟨w.heap.size, 0, Option.none⟩) xs.length xs.length ∧ Ext w A ∧
    ∃ cur : Array Value, cur.size = xs.length ∧ cur.toList.take i = (foldN (xs.take i)).map vs ∧ A.heap[w.heap.size]? = some (.cells cur 9 (0, 0))) xs.length ?_ ?_
  · refine ⟨rfl, 0, by omega, ?_, ?_, ?_, ?_, hE1, cur1, hs1, by simp [foldN], hb1⟩ <;> simp only [↓reduceIte, go_sem, Nat.reduceLT, Nat.reduceEqDiff, Nat.reduceSub] <;> rfl
  · rintro m σ ds A ⟨rfl, i, him, h11, h10, h9, h3, hE, cu, hcu, hpre, hrow⟩
    repeat (with_reducible first | refine W_seq ?_ | refine W_block ?_ | refine W_skip ?_ | refine W_ret ?_ | refine W_exit ?_ | refine thenQ_normal ?_ | refine thenQ_exit ?_ | refine thenQ_ret ?_ | refine blockQ_normal ?_ | refine blockQ_ret ?_ | refine blockQ_same ?_ | refine blockQ_other rfl ?_)
    refine W_reg (by rfl) ?_; intro gd K hgd hK; simp (disch := first | omega | assumption | rfl) only [↓reduceIte, go_sem, Nat.reduceLT, Nat.reduceEqDiff, Nat.reduceSub, h11, h10]; refine hK _ _ ?_; clear hK hgd; clear K gd
    repeat (with_reducible first | refine W_seq ?_ | refine W_block ?_ | refine W_skip ?_ | refine W_ret ?_ | refine W_exit ?_ | refine thenQ_normal ?_ | refine thenQ_exit ?_ | refine thenQ_ret ?_ | refine blockQ_normal ?_ | refine blockQ_ret ?_ | refine blockQ_same ?_ | refine blockQ_other rfl ?_)
    refine W_cond (by simp only [↓reduceIte, go_sem, Nat.reduceLT, Nat.reduceEqDiff, Nat.reduceSub]; rfl) ?_ ?_
    · intro hlt
      simp only [decide_eq_true_eq] at hlt
      have hsa : a.isSome = true := some_of_cellO (hla i (by omega))
      have hla' := fun j h => cellO_ext hE (hla j h)
      repeat (with_reducible first | refine W_seq ?_ | refine W_block ?_ | refine W_skip ?_ | refine W_ret ?_ | refine W_exit ?_ | refine thenQ_normal ?_ | refine thenQ_exit ?_ | refine thenQ_ret ?_ | refine blockQ_normal ?_ | refine blockQ_ret ?_ | refine blockQ_same ?_ | refine blockQ_other rfl ?_)
      refine W_reg (by rfl) ?_; intro gd K hgd hK; simp (disch := first | omega | assumption | rfl) only [↓reduceIte, go_sem, Nat.reduceLT, Nat.reduceEqDiff, Nat.reduceSub, h11, h9, hla', List.getElem_map]; refine hK _ _ ?_; clear hK hgd; clear K gd
      repeat (with_reducible first | refine W_seq ?_ | refine W_block ?_ | refine W_skip ?_ | refine W_ret ?_ | refine W_exit ?_ | refine thenQ_normal ?_ | refine thenQ_exit ?_ | refine thenQ_ret ?_ | refine blockQ_normal ?_ | refine blockQ_ret ?_ | refine blockQ_same ?_ | refine blockQ_other rfl ?_)
      refine W_reg (by rfl) ?_; intro gd K hgd hK
      try simp (disch := first | omega | assumption | rfl) only [↓reduceIte, go_sem, Nat.reduceLT, Nat.reduceEqDiff, Nat.reduceSub, h3]
      refine Fn.mono (LFold_ok _ _ (LB.get hx _)) ?_
      rintro _ w5 ⟨rfl, hE5⟩
      try simp (disch := first | omega | assumption | rfl) only [↓reduceIte, go_sem, Nat.reduceLT, Nat.reduceEqDiff, Nat.reduceSub, h3]
      refine st_one rfl rfl rfl ((hE5.block _ (by have := hE.size; have := (Array.getElem?_eq_some_iff.1 hrow).1; omega) (fun h => h)).trans hrow) (by omega) (by simp) ?_
      intro w6 hsz6 hb6 hk6
      refine hK _ _ ?_; clear hK hgd; clear K; try clear gd
      repeat (with_reducible first | refine W_seq ?_ | refine W_block ?_ | refine W_skip ?_ | refine W_ret ?_ | refine W_exit ?_ | refine thenQ_normal ?_ | refine thenQ_exit ?_ | refine thenQ_ret ?_ | refine blockQ_normal ?_ | refine blockQ_ret ?_ | refine blockQ_same ?_ | refine blockQ_other rfl ?_)
      refine W_reg (by rfl) ?_; intro gd K hgd hK; simp (disch := first | omega | assumption | rfl) only [↓reduceIte, go_sem, Nat.reduceLT, Nat.reduceEqDiff, Nat.reduceSub, h11]; refine hK _ _ ?_; clear hK hgd; clear K gd
      repeat (with_reducible first | refine W_seq ?_ | refine W_block ?_ | refine W_skip ?_ | refine W_ret ?_ | refine W_exit ?_ | refine thenQ_normal ?_ | refine thenQ_exit ?_ | refine thenQ_ret ?_ | refine blockQ_normal ?_ | refine blockQ_ret ?_ | refine blockQ_same ?_ | refine blockQ_other rfl ?_)
      refine ⟨m - 1, by omega, rfl, i + 1, by omega, by simp only [↓reduceIte, go_sem, Nat.reduceLT, Nat.reduceEqDiff, Nat.reduceSub]; rfl, by simp only [↓reduceIte, go_sem, Nat.reduceLT, Nat.reduceEqDiff, Nat.reduceSub, h10], by simp only [↓reduceIte, go_sem, Nat.reduceLT, Nat.reduceEqDiff, Nat.reduceSub, h9], by simp only [↓reduceIte, go_sem, Nat.reduceLT, Nat.reduceEqDiff, Nat.reduceSub, h3], Keep.to_ext (hE.trans hE5) rfl (fun b hb => by omega) hk6, _, by simpa using hcu, ?_, hb6⟩
      rw [foldN_take (by omega), Array.toList_setIfInBounds, take_succ' (by simp; omega), List.take_set_of_le (by omega), hpre, List.map_append]
      simp
    · intro hge
      simp only [decide_eq_false_iff_not] at hge
      repeat (with_reducible first | refine W_seq ?_ | refine W_block ?_ | refine W_skip ?_ | refine W_ret ?_ | refine W_exit ?_ | refine thenQ_normal ?_ | refine thenQ_exit ?_ | refine thenQ_ret ?_ | refine blockQ_normal ?_ | refine blockQ_ret ?_ | refine blockQ_same ?_ | refine blockQ_other rfl ?_)
      refine W_reg (by rfl) ?_; intro gd K hgd hK; simp (disch := first | omega | assumption | rfl) only [↓reduceIte, go_sem, Nat.reduceLT, Nat.reduceEqDiff, Nat.reduceSub, h3]; refine hK _ _ ?_; clear hK hgd; clear K gd
      repeat (with_reducible first | refine W_seq ?_ | refine W_block ?_ | refine W_skip ?_ | refine W_ret ?_ | refine W_exit ?_ | refine thenQ_normal ?_ | refine thenQ_exit ?_ | refine thenQ_ret ?_ | refine blockQ_normal ?_ | refine blockQ_ret ?_ | refine blockQ_same ?_ | refine blockQ_other rfl ?_)
      refine ret_one (by simp) rfl Try.ntmps41 (by simp only [↓reduceIte, go_sem, Nat.reduceLT, Nat.reduceEqDiff, Nat.reduceSub]; rfl) ?_
      refine ⟨?_, hE⟩
      rw [List.take_of_length_le (l := xs) (by omega), List.take_of_length_le (by simp; omega)] at hpre
      refine ⟨_, _, by rw [List.length_map, foldN_len], by simp [foldN_len], fun j hj => ?_⟩
      rw [adr_some]
      show A.cell? _ = _
      rw [cell_of hrow, Nat.zero_add, ← Array.getElem?_toList, hpre, List.getElem?_eq_getElem hj]

theorem Child_ok (w : World) (b : Value) (l : List UInt8) (xs : Nm) (hb : Row w b (xs.map vs)) (hxl : xs.length ≤ 1000000000000) :
    Fn Try.prog 54 #[vs l, b] w (fun v w' => RowB w.heap.size w' v ((l :: xs).map vs) ∧ Ext w w') := by
  have hb0 := hb
  obtain ⟨b, cb, rfl, hcb, hlb⟩ := hb
  simp only [List.length_map] at *
  refine enter Try.func54 Try.ntmps54 rfl rfl ?_
  repeat (with_reducible first | refine W_seq ?_ | refine W_block ?_ | refine W_skip ?_ | refine W_ret ?_ | refine W_exit ?_ | refine thenQ_normal ?_ | refine thenQ_exit ?_ | refine thenQ_ret ?_ | refine blockQ_normal ?_ | refine blockQ_ret ?_ | refine blockQ_same ?_ | refine blockQ_other rfl ?_)
  refine W_reg (by rfl) ?_; intro gd K hgd hK; simp (disch := first | omega | assumption | rfl) only [↓reduceIte, go_sem, Nat.reduceLT, Nat.reduceEqDiff, Nat.reduceSub]; refine hK _ _ ?_; clear hK hgd; clear K gd
  repeat (with_reducible first | refine W_seq ?_ | refine W_block ?_ | refine W_skip ?_ | refine W_ret ?_ | refine W_exit ?_ | refine thenQ_normal ?_ | refine thenQ_exit ?_ | refine thenQ_ret ?_ | refine blockQ_normal ?_ | refine blockQ_ret ?_ | refine blockQ_same ?_ | refine blockQ_other rfl ?_)
  refine W_reg (by rfl) ?_; intro gd K hgd hK
  try simp (disch := first | omega | assumption | rfl) only [↓reduceIte, go_sem, Nat.reduceLT, Nat.reduceEqDiff, Nat.reduceSub]
  have hbs : bsC Try.prog 24 1 [(0, vs l)] = some (9, #[vs l]) := bsC_one (z := vs []) rfl rfl rfl rfl rfl
  unfold bsL bsK
  rw [hbs]
  simp only []
  have hown : (w.alloc (.cells #[vs l] 9)).ownsRow w.heap.size 9 1 (.slice (some ⟨w.heap.size, 0, Option.none⟩) 1 1) 1 [vs l] :=
    ⟨rfl, .inr ⟨w.heap.size, 1, #[vs l], rfl, Nat.le_refl _, new_block w _, Nat.le_refl _, by decide, rfl, rfl⟩⟩
  try simp (disch := first | omega | assumption | rfl) only [↓reduceIte, go_sem, Nat.reduceLT, Nat.reduceEqDiff, Nat.reduceSub]
  refine op_append (P := Try.prog) (e := 9) (size := 1) (bytes := 16) (m := xs.length) rfl rfl rfl rfl rfl rfl (by decide) (by simp only [↓reduceIte, go_sem, Nat.reduceLT, Nat.reduceEqDiff, Nat.reduceSub]) (by simp only [↓reduceIte, go_sem, Nat.reduceLT, Nat.reduceEqDiff, Nat.reduceSub]; rfl) hown (by simpa using Src1.of_row (hb0.ext (Ext.alloc w _))) ?_ ?_ ?_ (by simp) ?_
  · intro q hq
    obtain ⟨s, _, rfl⟩ := List.mem_map.1 hq
    rfl
  · simp [maxLen]; omega
  · omega
  intro v' w' hown' hgr _
  try simp (disch := first | omega | assumption | rfl) only [↓reduceIte, go_sem, Nat.reduceLT, Nat.reduceEqDiff, Nat.reduceSub]
  refine hK _ _ ?_; clear hK hgd; clear K; try clear gd
  repeat (with_reducible first | refine W_seq ?_ | refine W_block ?_ | refine W_skip ?_ | refine W_ret ?_ | refine W_exit ?_ | refine thenQ_normal ?_ | refine thenQ_exit ?_ | refine thenQ_ret ?_ | refine blockQ_normal ?_ | refine blockQ_ret ?_ | refine blockQ_same ?_ | refine blockQ_other rfl ?_)
  refine ret_one (by simp) rfl Try.ntmps54 (by simp only [↓reduceIte, go_sem, Nat.reduceLT, Nat.reduceEqDiff, Nat.reduceSub]; rfl) ?_
  exact ⟨by simpa using RowB.of_owns hown', Keep.to_ext (Ext.alloc w _) rfl (fun b hb => by simp [Value.ownBlock] at hb; omega) hgr⟩
end Go.Proofs.Ytciadbhnodgpgaa
