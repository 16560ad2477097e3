/-
  The reference's Add: a name and its ancestors put into a row of names.
  Conditions: none.
-/
import Derived.Test.YtciadbhnodgpgaaR3
set_option linter.unusedVariables false
set_option linter.unusedSimpArgs false
set_option linter.defProp false
namespace Go.Proofs.Ytciadbhnodgpgaa
open Go
set_option maxRecDepth 10000

theorem foldB_idem (c : UInt8) : foldB (foldB c) = foldB c := by
  unfold foldB
  by_cases h : 65 ≤ c ∧ c ≤ 90
  · rw [if_pos h]
    have h1 : ¬ (65 ≤ c + 32 ∧ c + 32 ≤ 90) := by
      obtain ⟨h1, h2⟩ := h
      rw [UInt8.le_iff_toNat_le] at *
      rintro ⟨h3, h4⟩
      rw [UInt8.le_iff_toNat_le] at *
      rw [UInt8.toNat_add] at *
      change (65 : Nat) ≤ _ at h1
      change _ ≤ (90 : Nat) at h2
      change (65 : Nat) ≤ (c.toNat + 32) % 256 at h3
      change (c.toNat + 32) % 256 ≤ (90 : Nat) at h4
      omega
    rw [if_neg h1]
  · rw [if_neg h, if_neg h]
theorem foldL_idem (l : Lab) : foldL (foldL l) = foldL l := by simp [foldL, foldB_idem, Function.comp_def]
theorem foldN_idem (n : Nm) : foldN (foldN n) = foldN n := by simp [foldN, foldL_idem, Function.comp_def]
theorem foldL_len (l : Lab) : (foldL l).length = l.length := by simp [foldL]
theorem LB.fold {n : Nm} (h : LB n) : LB (foldN n) := fun l hl => by
  simp only [foldN, List.mem_map] at hl
  obtain ⟨m, hm, rfl⟩ := hl
  rw [foldL_len]; exact h m hm
theorem foldN_drop (n : Nm) (k : Nat) : foldN (n.drop k) = (foldN n).drop k := by simp [foldN, List.map_drop]

theorem drop_inj {f : Nm} {i k : Nat} (hi : i ≤ f.length) (hk : k ≤ f.length) (h : f.drop i = f.drop k) : i = k := by
  have := congrArg List.length h
  simp at this; omega

theorem tails_in {L : List Nm} (hcl : ∀ l f, l :: f ∈ L → f ∈ L) {f : Nm} : ∀ {i k : Nat}, i ≤ k → k ≤ f.length → f.drop i ∈ L → f.drop k ∈ L := by
  intro i k hik hk h
  obtain ⟨d, rfl⟩ : ∃ d, k = i + d := ⟨k - i, by omega⟩
  clear hik
  induction d with
  | zero => simpa using h
  | succ d ih =>
    have h1 := ih (by omega)
    rw [List.drop_eq_getElem_cons (by omega)] at h1
    exact hcl _ _ h1

theorem Rise.insert {L : List Nm} {g : Nm} {k : Nat} (hs : Rise L) (h1 : ∀ x ∈ L.take k, cmpN x g < 0) (h2 : ∀ x ∈ L.drop k, cmpN g x < 0) : Rise (L.take k ++ [g] ++ L.drop k) := by
  have hs' := hs
  unfold Rise at *
  rw [← List.take_append_drop k L, List.pairwise_append] at hs'
  obtain ⟨h3, h4, h5⟩ := hs'
  rw [List.pairwise_append, List.pairwise_append]
  refine ⟨⟨h3, by simp, fun a ha b hb => ?_⟩, h4, fun a ha b hb => ?_⟩
  · rw [List.mem_singleton.1 hb]; exact h1 a ha
  · rcases List.mem_append.1 ha with ha | ha
    · exact h5 a ha b hb
    · rw [List.mem_singleton.1 ha]; exact h2 b hb

theorem mem_insert {L : List Nm} {g x : Nm} (k : Nat) : x ∈ L.take k ++ [g] ++ L.drop k ↔ x ∈ L ∨ x = g := by
  rw [List.mem_append, List.mem_append, List.mem_singleton]
  conv => rhs; rw [← List.take_append_drop k L, List.mem_append]
  constructor
  · rintro ((h | h) | h) <;> simp [h]
  · rintro ((h | h) | h) <;> simp [h]

/-- values, each a name's -/
def RowsOf (R : Value → Nm → Prop) (vals : List Value) (L : List Nm) : Prop := vals.length = L.length ∧ ∀ i (h : i < vals.length) (h' : i < L.length), R vals[i] L[i]
theorem RowsOf.imp {R T : Value → Nm → Prop} {vals : List Value} {L : List Nm} (h : RowsOf R vals L) (hE : ∀ v n, R v n → T v n) : RowsOf T vals L := ⟨h.1, fun i a b => hE _ _ (h.2 i a b)⟩
theorem RowsOf.insert {R : Value → Nm → Prop} {vals : List Value} {L : List Nm} {v : Value} {g : Nm} {k : Nat} (h : RowsOf R vals L) (hv : R v g) (hk : k ≤ L.length) : RowsOf R (vals.take k ++ [v] ++ vals.drop k) (L.take k ++ [g] ++ L.drop k) := by
  obtain ⟨h1, h2⟩ := h
  refine ⟨by simp; omega, fun i a b => ?_⟩
  have hA : (vals.take k).length = k := by simp; omega
  have hB : (L.take k).length = k := by simp; omega
  have ha' : i < vals.length + 1 := by simp at a; omega
  by_cases hik : i < k
  · have e1 : (vals.take k ++ [v] ++ vals.drop k)[i] = vals[i]'(by omega) := by
      rw [List.getElem_append_left (by simp; omega), List.getElem_append_left (by omega), List.getElem_take]
    have e2 : (L.take k ++ [g] ++ L.drop k)[i] = L[i]'(by omega) := by
      rw [List.getElem_append_left (by simp; omega), List.getElem_append_left (by omega), List.getElem_take]
    rw [e1, e2]; exact h2 i (by omega) (by omega)
  · by_cases hik2 : i = k
    · have e1 : (vals.take k ++ [v] ++ vals.drop k)[i]? = some v := by
        rw [List.getElem?_append_left (by simp; omega), List.getElem?_append_right (by omega), hA, hik2, Nat.sub_self]; rfl
      have e2 : (L.take k ++ [g] ++ L.drop k)[i]? = some g := by
        rw [List.getElem?_append_left (by simp; omega), List.getElem?_append_right (by omega), hB, hik2, Nat.sub_self]; rfl
      rw [(List.getElem?_eq_some_iff.1 e1).2, (List.getElem?_eq_some_iff.1 e2).2]; exact hv
    · have e1 : (vals.take k ++ [v] ++ vals.drop k)[i]? = some (vals[i - 1]'(by omega)) := by
        rw [List.getElem?_append_right (by simp; omega), List.getElem?_drop, List.getElem?_eq_some_iff]
        refine ⟨by simp; omega, by congr 1; simp; omega⟩
      have e2 : (L.take k ++ [g] ++ L.drop k)[i]? = some (L[i - 1]'(by omega)) := by
        rw [List.getElem?_append_right (by simp; omega), List.getElem?_drop, List.getElem?_eq_some_iff]
        refine ⟨by simp; omega, by congr 1; simp; omega⟩
      rw [(List.getElem?_eq_some_iff.1 e1).2, (List.getElem?_eq_some_iff.1 e2).2]; exact h2 _ (by omega) (by omega)

/-- a row that lies in no block of S -/
abbrev RowN (S : Nat → Prop) (w : World) (v : Value) (g : Nm) : Prop := RowZ 0 S w v (g.map vs)
/-- a slice of names, none of it in a block of S -/
def NamesZ (S : Nat → Prop) (w : World) (v : Value) (L : List Nm) : Prop := ∃ vals, RowZ 0 S w v vals ∧ RowsOf (RowN S w) vals L
theorem NamesZ.at {S : Nat → Prop} {w : World} {v : Value} {L : List Nm} (h : NamesZ S w v L) : NamesAt w v L := by
  obtain ⟨vals, h1, h2, h3⟩ := h
  exact ⟨vals, h1.1, h2, fun i a b => (h3 i a b).1⟩
theorem NamesZ.ext {S : Nat → Prop} {w x : World} {v : Value} {L : List Nm} (h : NamesZ S w v L) (hE : Ext w x) : NamesZ S x v L := by
  obtain ⟨vals, h1, h2⟩ := h
  exact ⟨vals, h1.ext hE, h2.imp fun v n h => h.ext hE⟩
theorem RowZ.turn {S S' : Nat → Prop} {w x : World} {v : Value} {l : List Value} (h : RowZ 0 S w v l) (hk : Keep S w x) (hS : ∀ b, S' b → S b ∨ w.heap.size ≤ b) : RowZ 0 S' x v l := by
  obtain ⟨h1, h2⟩ := h
  refine ⟨h1.blocks fun a n c hv => ?_, fun a n c hv => ?_⟩
  · obtain ⟨_, k1, k2⟩ := h2 a n c hv
    exact hk.block _ k1 k2
  · obtain ⟨_, k1, k2⟩ := h2 a n c hv
    refine ⟨Nat.zero_le _, Nat.lt_of_lt_of_le k1 hk.size, fun h => ?_⟩
    rcases hS _ h with h | h
    · exact k2 h
    · omega
theorem NamesZ.turn {S S' : Nat → Prop} {w x : World} {v : Value} {L : List Nm} (h : NamesZ S w v L) (hk : Keep S w x) (hS : ∀ b, S' b → S b ∨ w.heap.size ≤ b) : NamesZ S' x v L := by
  obtain ⟨vals, h1, h2⟩ := h
  exact ⟨vals, h1.turn hk hS, h2.imp fun v n h => h.turn hk hS⟩
theorem RowZ.own {S : Nat → Prop} {B : Nat} {w : World} {e : TypeId} {v : Value} {l : List Value} (h : Own B w e v l) (hS : ∀ b, S b → b < B) : RowZ 0 S w v l :=
  ⟨h.row, fun a n c hv => by have := h.rowB.2 a n c hv; exact ⟨Nat.zero_le _, this.2, fun hs => by have := hS _ hs; omega⟩⟩
theorem RowZ.sub {S : Nat → Prop} {w : World} {a : Option Addr} {n c lo hi m : Nat} {l k : List Value} (h : RowZ 0 S w (.slice a n c) l) (hr : Row w (.slice (if c = lo then a else adr a lo) hi m) k) : RowZ 0 S w (.slice (if c = lo then a else adr a lo) hi m) k := by
  refine ⟨hr, fun b n' c' hv => ?_⟩
  simp only [Value.slice.injEq] at hv
  cases a with
  | none =>
    have : (if c = lo then (Option.none : Option Addr) else adr Option.none lo) = Option.none := by split <;> rfl
    rw [this] at hv; cases hv.1
  | some a =>
    have hb : b.block = a.block := by
      obtain ⟨h1, _⟩ := hv
      split at h1
      · cases h1; rfl
      · simp only [adr, Option.map_some, Option.some.injEq] at h1
        rw [← h1]; unfold Addr.add; split <;> rfl
    rw [hb]; exact h.2 a n c rfl
theorem RowZ.one {S : Nat → Prop} {w : World} {v : Value} {l : List Value} (h : RowZ 0 S w v l) : _root_.Go.Proofs.Ytciadbhnodgpgaa.one v = true := by
  obtain ⟨⟨a, c, h1, _⟩, _⟩ := h
  rw [h1]; rfl

theorem RAdd_ok {S : Nat → Prop} (w : World) (lv nv : Value) (L : List Nm) (n : Nm) (hl : NamesZ S w lv L) (hS : ∀ b, S b → b < w.heap.size) (hn : Row w nv (n.map vs)) (hfold : ∀ x ∈ L, foldN x = x) (hLB : ∀ x ∈ L, LB x ∧ x.length ≤ 100000000000) (hnb : LB n) (hnl : n.length ≤ 100000)
    (hlen : L.length ≤ 100000000) (hs : Rise L) (hcl : ∀ l f, l :: f ∈ L → f ∈ L) :
    Fn Try.prog 11 #[lv, nv] w (fun v w' => Ext w w' ∧ ∃ L', NamesZ S w' v L' ∧ Rise L' ∧ (∀ g, g ∈ L' ↔ g ∈ L ∨ ∃ k, k ≤ n.length ∧ g = (foldN n).drop k) ∧ L'.length ≤ L.length + n.length + 1) := by
  refine enter Try.func11 Try.ntmps11 rfl rfl ?_
  repeat (with_reducible first | refine W_seq ?_ | refine W_block ?_ | refine W_skip ?_ | refine W_ret ?_ | refine W_exit ?_ | refine thenQ_normal ?_ | refine thenQ_exit ?_ | refine thenQ_ret ?_ | refine blockQ_normal ?_ | refine blockQ_ret ?_ | refine blockQ_same ?_ | refine blockQ_other rfl ?_)
  refine W_reg (by rfl) ?_; intro gd K hgd hK; simp (disch := first | omega | assumption | rfl) only [↓reduceIte, go_sem, Nat.reduceLT, Nat.reduceEqDiff, Nat.reduceSub]; refine hK _ _ ?_; clear hK hgd; clear K gd
  repeat (with_reducible first | refine W_seq ?_ | refine W_block ?_ | refine W_skip ?_ | refine W_ret ?_ | refine W_exit ?_ | refine thenQ_normal ?_ | refine thenQ_exit ?_ | refine thenQ_ret ?_ | refine blockQ_normal ?_ | refine blockQ_ret ?_ | refine blockQ_same ?_ | refine blockQ_other rfl ?_)
  refine W_reg (by rfl) ?_; intro gd K hgd hK
  try simp (disch := first | omega | assumption | rfl) only [↓reduceIte, go_sem, Nat.reduceLT, Nat.reduceEqDiff, Nat.reduceSub]
  refine Fn.mono (RFold_ok _ _ _ hn hnb (by omega)) ?_
  rintro fv w1 ⟨hf, hE1⟩
  try simp (disch := first | omega | assumption | rfl) only [↓reduceIte, go_sem, Nat.reduceLT, Nat.reduceEqDiff, Nat.reduceSub]
  refine hK _ _ ?_; clear hK hgd; clear K; try clear gd
  obtain ⟨fa, fc, rfl⟩ := hf.slice
  obtain ⟨F, hF⟩ : ∃ F, foldN n = F := ⟨_, rfl⟩
  have hFl : F.length = n.length := by rw [← hF]; exact foldN_len n
  rw [hF] at hf ⊢
  have hFr := hf.row
  have hf0 := hf
  simp only [List.length_map] at *
  have hFr' : ∀ {x}, Ext w1 x → ∃ (_ : F.length ≤ fc), ∀ j (h : j < (F.map vs).length), cellO x (adr fa j) = some (F.map vs)[j] := fun {x} hx => by
    obtain ⟨a, c, e, h1, h2⟩ := hFr.ext hx
    simp only [List.length_map, Value.slice.injEq, true_and] at e h1
    obtain ⟨rfl, rfl⟩ := e
    exact ⟨h1, h2⟩
  have hFc := (hFr' (Keep.refl _ _)).1
  have hFfold : foldN F = F := by rw [← hF, foldN_idem]
  have hFb : LB F := by rw [← hF]; exact hnb.fold
  repeat (first | (with_reducible first | refine W_seq ?_ | refine W_block ?_ | refine W_skip ?_ | refine W_ret ?_ | refine W_exit ?_ | refine thenQ_normal ?_ | refine thenQ_exit ?_ | refine thenQ_ret ?_ | refine blockQ_normal ?_ | refine blockQ_ret ?_ | refine blockQ_same ?_ | refine blockQ_other rfl ?_) | (refine W_reg (by rfl) ?_; intro gd K hgd hK; simp (disch := first | omega | assumption | rfl) only [↓reduceIte, go_sem, Nat.reduceLT, Nat.reduceEqDiff, Nat.reduceSub]; refine hK _ _ ?_; clear hK hgd; clear K gd))
  refine W_loop (fun m σ ds A => ds = [] ∧ ∃ (i : Nat) (lv' : Value) (L' : List Nm), i + m = F.length + 1 ∧ σ 6 = vi i ∧ σ 5 = .slice fa F.length fc ∧ σ 0 = lv' ∧ Ext w1 A ∧ NamesZ S A lv' L' ∧ Rise L' ∧ (∀ g, g ∈ L' ↔ g ∈ L ∨ ∃ k, k < i ∧ g = F.drop k) ∧ L'.length ≤ L.length + i) (F.length + 1) ?_ ?_
  · refine ⟨rfl, 0, lv, L, by omega, ?_, ?_, ?_, Keep.refl _ _, hl.ext hE1, hs, by simp, by omega⟩
    · simp only [↓reduceIte, go_sem, Nat.reduceLT, Nat.reduceEqDiff, Nat.reduceSub]; rfl
    · simp only [↓reduceIte, go_sem, Nat.reduceLT, Nat.reduceEqDiff, Nat.reduceSub]
    · simp only [↓reduceIte, go_sem, Nat.reduceLT, Nat.reduceEqDiff, Nat.reduceSub]
  · rintro m σ ds A ⟨rfl, i, lv', L', him, h6, h5, h0, hE, hN, hR, hmem, hL'⟩
    have hfold' : ∀ x ∈ L', foldN x = x := fun x hx => by
      rcases (hmem x).1 hx with h | ⟨k, _, rfl⟩
      · exact hfold x h
      · rw [foldN_drop, hFfold]
    have hLB' : ∀ x ∈ L', LB x ∧ x.length ≤ 100000000000 := fun x hx => by
      rcases (hmem x).1 hx with h | ⟨k, _, rfl⟩
      · exact hLB x h
      · exact ⟨hFb.drop k, by simp; omega⟩
    repeat (with_reducible first | refine W_seq ?_ | refine W_block ?_ | refine W_skip ?_ | refine W_ret ?_ | refine W_exit ?_ | refine thenQ_normal ?_ | refine thenQ_exit ?_ | refine thenQ_ret ?_ | refine blockQ_normal ?_ | refine blockQ_ret ?_ | refine blockQ_same ?_ | refine blockQ_other rfl ?_)
    refine W_reg (by rfl) ?_; intro gd K hgd hK; simp (disch := first | omega | assumption | rfl) only [↓reduceIte, go_sem, Nat.reduceLT, Nat.reduceEqDiff, Nat.reduceSub, h6, h5]; refine hK _ _ ?_; clear hK hgd; clear K gd
    repeat (with_reducible first | refine W_seq ?_ | refine W_block ?_ | refine W_skip ?_ | refine W_ret ?_ | refine W_exit ?_ | refine thenQ_normal ?_ | refine thenQ_exit ?_ | refine thenQ_ret ?_ | refine blockQ_normal ?_ | refine blockQ_ret ?_ | refine blockQ_same ?_ | refine blockQ_other rfl ?_)
    refine W_cond (by simp only [↓reduceIte, go_sem, Nat.reduceLT, Nat.reduceEqDiff, Nat.reduceSub]; rfl) ?_ ?_
    · intro hlt
      simp only [decide_eq_true_eq] at hlt
      have htail : ∀ {x}, Ext w1 x → RowN S x (.slice (if fc = i then fa else adr fa i) (F.length - i) (fc - i)) (F.drop i) := fun {x} hx => by
        obtain ⟨h1, h2⟩ := hFr' hx
        have := Row.tail (l := F.map vs) (by simp) h1 h2 (lo := i) (by omega)
        rw [← List.map_drop] at this
        exact ((RowZ.own hf0 hS).ext hx).sub this
      repeat (with_reducible first | refine W_seq ?_ | refine W_block ?_ | refine W_skip ?_ | refine W_ret ?_ | refine W_exit ?_ | refine thenQ_normal ?_ | refine thenQ_exit ?_ | refine thenQ_ret ?_ | refine blockQ_normal ?_ | refine blockQ_ret ?_ | refine blockQ_same ?_ | refine blockQ_other rfl ?_)
      refine W_reg (by rfl) ?_; intro gd K hgd hK
      try simp (disch := first | omega | assumption | rfl) only [↓reduceIte, go_sem, Nat.reduceLT, Nat.reduceEqDiff, Nat.reduceSub, h0, h5, h6]
      refine Fn.mono (RPlace_ok A _ _ L' (F.drop i) hN.at (htail hE).1 hfold' (by rw [foldN_drop, hFfold]) hLB' ⟨hFb.drop _, by simp; omega⟩ (by omega) hR) ?_
      rintro _ w2 ⟨hE2, k, ok, rfl, hk, hyes, hno⟩
      try simp (disch := first | omega | assumption | rfl) only [↓reduceIte, go_sem, Nat.reduceLT, Nat.reduceEqDiff, Nat.reduceSub]
      refine hK _ _ ?_; clear hK hgd; clear K; try clear gd
      repeat (with_reducible first | refine W_seq ?_ | refine W_block ?_ | refine W_skip ?_ | refine W_ret ?_ | refine W_exit ?_ | refine thenQ_normal ?_ | refine thenQ_exit ?_ | refine thenQ_ret ?_ | refine blockQ_normal ?_ | refine blockQ_ret ?_ | refine blockQ_same ?_ | refine blockQ_other rfl ?_)
      refine W_reg (by rfl) ?_; intro gd K hgd hK; simp (disch := first | omega | assumption | rfl) only [↓reduceIte, go_sem, Nat.reduceLT, Nat.reduceEqDiff, Nat.reduceSub]; refine hK _ _ ?_; clear hK hgd; clear K gd
      repeat (with_reducible first | refine W_seq ?_ | refine W_block ?_ | refine W_skip ?_ | refine W_ret ?_ | refine W_exit ?_ | refine thenQ_normal ?_ | refine thenQ_exit ?_ | refine thenQ_ret ?_ | refine blockQ_normal ?_ | refine blockQ_ret ?_ | refine blockQ_same ?_ | refine blockQ_other rfl ?_)
      refine W_cond (by simp only [↓reduceIte, go_sem, Nat.reduceLT, Nat.reduceEqDiff, Nat.reduceSub]; rfl) ?_ ?_
      · intro hok
        obtain ⟨hk', hkg⟩ := hyes hok
        repeat (first | (with_reducible first | refine W_seq ?_ | refine W_block ?_ | refine W_skip ?_ | refine W_ret ?_ | refine W_exit ?_ | refine thenQ_normal ?_ | refine thenQ_exit ?_ | refine thenQ_ret ?_ | refine blockQ_normal ?_ | refine blockQ_ret ?_ | refine blockQ_same ?_ | refine blockQ_other rfl ?_) | (refine W_reg (by rfl) ?_; intro gd K hgd hK; simp (disch := first | omega | assumption | rfl) only [↓reduceIte, go_sem, Nat.reduceLT, Nat.reduceEqDiff, Nat.reduceSub, h0]; refine hK _ _ ?_; clear hK hgd; clear K gd))
        refine ret_one (by simp) rfl Try.ntmps11 (by simp only [↓reduceIte, go_sem, Nat.reduceLT, Nat.reduceEqDiff, Nat.reduceSub, h0]; rfl) ?_
        have hin : F.drop i ∈ L' := by rw [← hkg]; exact List.getElem_mem _
        have hinL : F.drop i ∈ L := by
          rcases (hmem _).1 hin with h | ⟨k, hki, h⟩
          · exact h
          · have := drop_inj (by omega) (by omega) h; omega
        refine ⟨(hE1.trans hE).trans hE2, L', hN.ext hE2, hR, fun g => ?_, by omega⟩
        rw [hmem g]
        constructor
        · rintro (h | ⟨k, hk, h⟩)
          · exact .inl h
          · exact .inr ⟨k, by omega, h⟩
        · rintro (h | ⟨k, hk, h⟩)
          · exact .inl h
          · by_cases hki : k < i
            · exact .inr ⟨k, hki, h⟩
            · rw [h]; exact .inl (tails_in hcl (by omega) (by omega) hinL)
      · intro hok
        obtain ⟨hlo, hhi⟩ := hno hok
        obtain ⟨vals, ⟨⟨la, lc, rfl, hlc, hla⟩, hlz⟩, hrows⟩ := id hN
        have hvl := hrows.1
        have hcutlo : ∀ {x}, Ext A x → Row x (.slice (if lc = 0 then la else adr la 0) (k - 0) (lc - 0)) (vals.take k) := fun {x} hx => by
          have := Row.cut (w := x) (l := vals) rfl hlc (fun j h => cellO_ext hx (hla j h)) (lo := 0) (hi := k) (by omega) (by omega)
          simpa using this
        have hcuthi : ∀ {x}, Ext A x → Row x (.slice (if lc = k then la else adr la k) (vals.length - k) (lc - k)) (vals.drop k) := fun {x} hx =>
          Row.tail (w := x) (l := vals) rfl hlc (fun j h => cellO_ext hx (hla j h)) (by omega)
        have hone : ∀ q ∈ vals, one q = true := fun q hq => by
          obtain ⟨j, hj, rfl⟩ := List.getElem_of_mem hq
          exact (hrows.2 j hj (by omega)).one
        repeat (with_reducible first | refine W_seq ?_ | refine W_block ?_ | refine W_skip ?_ | refine W_ret ?_ | refine W_exit ?_ | refine thenQ_normal ?_ | refine thenQ_exit ?_ | refine thenQ_ret ?_ | refine blockQ_normal ?_ | refine blockQ_ret ?_ | refine blockQ_same ?_ | refine blockQ_other rfl ?_)
        refine W_mono (Q := fun e σ' ds' v' => e = .normal ∧ ds' = [] ∧ σ' 0 = σ 0 ∧ σ' 5 = σ 5 ∧ σ' 6 = σ 6 ∧ σ' 7 = vi k ∧ Ext w2 v' ∧ ∃ xv, σ' 9 = xv ∧ Own w2.heap.size v' 23 xv (vals.take k ++ [.slice (if fc = i then fa else adr fa i) (F.length - i) (fc - i)])) ?_ ?_
        · refine W_tree (fun _ => false) (.run [(1, true), (2, true), (3, true), (5, true), (6, true), (7, true)] (.fork 4 [0, 8] (fun i => if i = 0 then (.run [] (.fork 3 [4, 8] (fun i => if i = 4 then (.run [(8, false), (9, false), (10, true)] .fin) else (.run [(4, false), (9, false), (10, true)] .fin)))) else (.run [(0, false), (4, false), (9, false), (10, true)] .fin)))) (above w2.heap.size) mixed (by kernel_rfl) ?_; intro gd K x hgd hx hxe hK; clear hxe
          simp (disch := first | omega | assumption | rfl) only [↓reduceIte, go_sem, Nat.reduceLT, Nat.reduceEqDiff, Nat.reduceSub, h0, h5, h6]
          have hx0 : Ext w2 x := ⟨hx.os, hx.tape, hx.output, hx.size, fun b hb _ => hx.block b hb (by unfold above; omega), hx.drawn⟩
          have hAx := hE2.trans hx0
          have hxs := hx.size
          have h1one : ∀ q ∈ [Value.slice (if fc = i then fa else adr fa i) (F.length - i) (fc - i)], one q = true := fun q hq => by rw [List.mem_singleton.1 hq]; rfl
          have h2one : ∀ q ∈ vals.take k, one q = true := fun q hq => hone q (List.mem_of_mem_take hq)
          simp only [allL_more, allL_one]; refine ⟨?_, ?_⟩
          · simp (disch := first | omega | assumption | rfl) only [↓reduceIte, go_sem, Nat.reduceLT, Nat.reduceEqDiff, Nat.reduceSub]
            refine bs_nil (z := .slice Option.none 0 0) rfl rfl rfl rfl ?_
            intro w3 hE3 hs3 ho3
            refine ⟨.inr hE3.keep, ?_⟩
            simp (disch := first | omega | assumption | rfl) only [↓reduceIte, go_sem, Nat.reduceLT, Nat.reduceEqDiff, Nat.reduceSub]
            simp only [allL_more, allL_one]; refine ⟨?_, ?_⟩
            · simp (disch := first | omega | assumption | rfl) only [↓reduceIte, go_sem, Nat.reduceLT, Nat.reduceEqDiff, Nat.reduceSub]
              refine op_app ho3 (hcutlo (hAx.trans hE3)) rfl rfl rfl rfl rfl rfl (by first | (simp only [↓reduceIte, go_sem, Nat.reduceLT, Nat.reduceEqDiff, Nat.reduceSub]; done) | (simp only [↓reduceIte, go_sem, Nat.reduceLT, Nat.reduceEqDiff, Nat.reduceSub]; rfl)) (by first | (simp only [↓reduceIte, go_sem, Nat.reduceLT, Nat.reduceEqDiff, Nat.reduceSub]; done) | (simp only [↓reduceIte, go_sem, Nat.reduceLT, Nat.reduceEqDiff, Nat.reduceSub]; rfl)) h2one (by simp; omega) (by decide) (by omega) ?_
              intro v4 w4 ho4 hE4 hk4 _
              refine ⟨.inr (hk4.mono fun b _ hb => by have := (ho3.ge hb).1; show _ ≤ _; omega), ?_⟩
              have hE4' := hE4 _ hE3 (Nat.le_refl _)
              have hs4 := hk4.size
              simp (disch := first | omega | assumption | rfl) only [↓reduceIte, go_sem, Nat.reduceLT, Nat.reduceEqDiff, Nat.reduceSub]
              refine bs_one (z := .slice Option.none 0 0) rfl rfl rfl rfl rfl ?_
              intro w5 hE5 hs5 ho5
              refine ⟨.inr hE5.keep, ?_⟩
              simp (disch := first | omega | assumption | rfl) only [↓reduceIte, go_sem, Nat.reduceLT, Nat.reduceEqDiff, Nat.reduceSub]
              refine op_app (ho4.ext hE5) ho5.row rfl rfl rfl rfl rfl rfl (by first | (simp only [↓reduceIte, go_sem, Nat.reduceLT, Nat.reduceEqDiff, Nat.reduceSub]; done) | (simp only [↓reduceIte, go_sem, Nat.reduceLT, Nat.reduceEqDiff, Nat.reduceSub]; rfl)) (by first | (simp only [↓reduceIte, go_sem, Nat.reduceLT, Nat.reduceEqDiff, Nat.reduceSub]; done) | (simp only [↓reduceIte, go_sem, Nat.reduceLT, Nat.reduceEqDiff, Nat.reduceSub]; rfl)) h1one (by simp; omega) (by decide) (by omega) ?_
              intro v6 w6 ho6 hE6 hk6 _
              refine ⟨.inr (hk6.mono fun b _ hb => by have := (ho4.ge hb).1; show _ ≤ _; omega), ?_⟩
              simp (disch := first | omega | assumption | rfl) only [↓reduceIte, go_sem, Nat.reduceLT, Nat.reduceEqDiff, Nat.reduceSub]
              refine hK _ _ ⟨rfl, rfl, by simp only [↓reduceIte, go_sem, Nat.reduceLT, Nat.reduceEqDiff, Nat.reduceSub], by simp only [↓reduceIte, go_sem, Nat.reduceLT, Nat.reduceEqDiff, Nat.reduceSub], by simp only [↓reduceIte, go_sem, Nat.reduceLT, Nat.reduceEqDiff, Nat.reduceSub], by simp only [↓reduceIte, go_sem, Nat.reduceLT, Nat.reduceEqDiff, Nat.reduceSub], hx0.trans (hE6 _ (hE4'.trans hE5) (Nat.le_refl _)), _, by simp only [↓reduceIte, go_sem, Nat.reduceLT, Nat.reduceEqDiff, Nat.reduceSub]; rfl, ?_⟩
              exact ho6.mono hxs
            · simp (disch := first | omega | assumption | rfl) only [↓reduceIte, go_sem, Nat.reduceLT, Nat.reduceEqDiff, Nat.reduceSub]
              refine bs_one (z := .slice Option.none 0 0) rfl rfl rfl rfl rfl ?_
              intro w5 hE5 hs5 ho5
              refine ⟨.inr hE5.keep, ?_⟩
              simp (disch := first | omega | assumption | rfl) only [↓reduceIte, go_sem, Nat.reduceLT, Nat.reduceEqDiff, Nat.reduceSub]
              refine op_app (ho3.ext hE5) (hcutlo ((hAx.trans hE3).trans hE5)) rfl rfl rfl rfl rfl rfl (by first | (simp only [↓reduceIte, go_sem, Nat.reduceLT, Nat.reduceEqDiff, Nat.reduceSub]; done) | (simp only [↓reduceIte, go_sem, Nat.reduceLT, Nat.reduceEqDiff, Nat.reduceSub]; rfl)) (by first | (simp only [↓reduceIte, go_sem, Nat.reduceLT, Nat.reduceEqDiff, Nat.reduceSub]; done) | (simp only [↓reduceIte, go_sem, Nat.reduceLT, Nat.reduceEqDiff, Nat.reduceSub]; rfl)) h2one (by simp; omega) (by decide) (by omega) ?_
              intro v4 w4 ho4 hE4 hk4 _
              have hs4 := hk4.size
              refine ⟨.inr (hk4.mono fun b _ hb => by have := (ho3.ge hb).1; show _ ≤ _; omega), ?_⟩
              have ho5' := ho5.keep hk4 (fun b hb hb2 => by have := (ho5.ge hb).1; have := (ho3.ge hb2).2; omega)
              simp (disch := first | omega | assumption | rfl) only [↓reduceIte, go_sem, Nat.reduceLT, Nat.reduceEqDiff, Nat.reduceSub]
              refine op_app ho4 ho5'.row rfl rfl rfl rfl rfl rfl (by first | (simp only [↓reduceIte, go_sem, Nat.reduceLT, Nat.reduceEqDiff, Nat.reduceSub]; done) | (simp only [↓reduceIte, go_sem, Nat.reduceLT, Nat.reduceEqDiff, Nat.reduceSub]; rfl)) (by first | (simp only [↓reduceIte, go_sem, Nat.reduceLT, Nat.reduceEqDiff, Nat.reduceSub]; done) | (simp only [↓reduceIte, go_sem, Nat.reduceLT, Nat.reduceEqDiff, Nat.reduceSub]; rfl)) h1one (by simp; omega) (by decide) (by omega) ?_
              intro v6 w6 ho6 hE6 hk6 _
              refine ⟨.inr (hk6.mono fun b _ hb => by have := (ho4.ge hb).1; show _ ≤ _; omega), ?_⟩
              simp (disch := first | omega | assumption | rfl) only [↓reduceIte, go_sem, Nat.reduceLT, Nat.reduceEqDiff, Nat.reduceSub]
              refine hK _ _ ⟨rfl, rfl, by simp only [↓reduceIte, go_sem, Nat.reduceLT, Nat.reduceEqDiff, Nat.reduceSub], by simp only [↓reduceIte, go_sem, Nat.reduceLT, Nat.reduceEqDiff, Nat.reduceSub], by simp only [↓reduceIte, go_sem, Nat.reduceLT, Nat.reduceEqDiff, Nat.reduceSub], by simp only [↓reduceIte, go_sem, Nat.reduceLT, Nat.reduceEqDiff, Nat.reduceSub], hx0.trans (hE6 _ (hE4 _ (hE3.trans hE5) (Nat.le_refl _)) (Nat.le_refl _)), _, by simp only [↓reduceIte, go_sem, Nat.reduceLT, Nat.reduceEqDiff, Nat.reduceSub]; rfl, ?_⟩
              exact ho6.mono hxs
          · simp (disch := first | omega | assumption | rfl) only [↓reduceIte, go_sem, Nat.reduceLT, Nat.reduceEqDiff, Nat.reduceSub]
            refine bs_one (z := .slice Option.none 0 0) rfl rfl rfl rfl rfl ?_
            intro w5 hE5 hs5 ho5
            refine ⟨.inr hE5.keep, ?_⟩
            simp (disch := first | omega | assumption | rfl) only [↓reduceIte, go_sem, Nat.reduceLT, Nat.reduceEqDiff, Nat.reduceSub]
            refine bs_nil (z := .slice Option.none 0 0) rfl rfl rfl rfl ?_
            intro w3 hE3 hs3 ho3
            refine ⟨.inr hE3.keep, ?_⟩
            simp (disch := first | omega | assumption | rfl) only [↓reduceIte, go_sem, Nat.reduceLT, Nat.reduceEqDiff, Nat.reduceSub]
            refine op_app ho3 (hcutlo ((hAx.trans hE5).trans hE3)) rfl rfl rfl rfl rfl rfl (by first | (simp only [↓reduceIte, go_sem, Nat.reduceLT, Nat.reduceEqDiff, Nat.reduceSub]; done) | (simp only [↓reduceIte, go_sem, Nat.reduceLT, Nat.reduceEqDiff, Nat.reduceSub]; rfl)) (by first | (simp only [↓reduceIte, go_sem, Nat.reduceLT, Nat.reduceEqDiff, Nat.reduceSub]; done) | (simp only [↓reduceIte, go_sem, Nat.reduceLT, Nat.reduceEqDiff, Nat.reduceSub]; rfl)) h2one (by simp; omega) (by decide) (by omega) ?_
            intro v4 w4 ho4 hE4 hk4 _
            refine ⟨.inr (hk4.mono fun b _ hb => by have := (ho3.ge hb).1; show _ ≤ _; omega), ?_⟩
            have hE4' := hE4 _ hE3 (Nat.le_refl _)
            have hs4 := hk4.size
            simp (disch := first | omega | assumption | rfl) only [↓reduceIte, go_sem, Nat.reduceLT, Nat.reduceEqDiff, Nat.reduceSub]
            refine op_app ho4 (ho5.ext hE4').row rfl rfl rfl rfl rfl rfl (by first | (simp only [↓reduceIte, go_sem, Nat.reduceLT, Nat.reduceEqDiff, Nat.reduceSub]; done) | (simp only [↓reduceIte, go_sem, Nat.reduceLT, Nat.reduceEqDiff, Nat.reduceSub]; rfl)) (by first | (simp only [↓reduceIte, go_sem, Nat.reduceLT, Nat.reduceEqDiff, Nat.reduceSub]; done) | (simp only [↓reduceIte, go_sem, Nat.reduceLT, Nat.reduceEqDiff, Nat.reduceSub]; rfl)) h1one (by simp; omega) (by decide) (by omega) ?_
            intro v6 w6 ho6 hE6 hk6 _
            refine ⟨.inr (hk6.mono fun b _ hb => by have := (ho4.ge hb).1; show _ ≤ _; omega), ?_⟩
            simp (disch := first | omega | assumption | rfl) only [↓reduceIte, go_sem, Nat.reduceLT, Nat.reduceEqDiff, Nat.reduceSub]
            refine hK _ _ ⟨rfl, rfl, by simp only [↓reduceIte, go_sem, Nat.reduceLT, Nat.reduceEqDiff, Nat.reduceSub], by simp only [↓reduceIte, go_sem, Nat.reduceLT, Nat.reduceEqDiff, Nat.reduceSub], by simp only [↓reduceIte, go_sem, Nat.reduceLT, Nat.reduceEqDiff, Nat.reduceSub], by simp only [↓reduceIte, go_sem, Nat.reduceLT, Nat.reduceEqDiff, Nat.reduceSub], hx0.trans (hE6 _ (hE5.trans hE4') (by omega)), _, by simp only [↓reduceIte, go_sem, Nat.reduceLT, Nat.reduceEqDiff, Nat.reduceSub]; rfl, ?_⟩
            exact ho6.mono (by omega)
        · rintro _ σ6 _ v6 ⟨rfl, rfl, e0, e5, e6, e7, hE6, xv, e9, hox⟩
          obtain ⟨xa, xc, rfl⟩ := hox.slice
          rw [h0] at e0
          rw [h5] at e5
          rw [h6] at e6
          repeat (with_reducible first | refine W_seq ?_ | refine W_block ?_ | refine W_skip ?_ | refine W_ret ?_ | refine W_exit ?_ | refine thenQ_normal ?_ | refine thenQ_exit ?_ | refine thenQ_ret ?_ | refine blockQ_normal ?_ | refine blockQ_ret ?_ | refine blockQ_same ?_ | refine blockQ_other rfl ?_)
          refine W_reg (by rfl) ?_; intro gd K hgd hK
          try simp (disch := first | omega | assumption | rfl) only [↓reduceIte, go_sem, Nat.reduceLT, Nat.reduceEqDiff, Nat.reduceSub, e0, e5, e6, e7, e9]
          refine op_app hox (hcuthi (hE2.trans hE6)) rfl rfl rfl rfl rfl rfl (by simp only [↓reduceIte, go_sem, Nat.reduceLT, Nat.reduceEqDiff, Nat.reduceSub, e9]) (by first | (simp only [↓reduceIte, go_sem, Nat.reduceLT, Nat.reduceEqDiff, Nat.reduceSub]; done) | (simp only [↓reduceIte, go_sem, Nat.reduceLT, Nat.reduceEqDiff, Nat.reduceSub]; rfl)) (fun q hq => hone q (List.mem_of_mem_drop hq)) (by simp; omega) (by decide) hE6.size ?_
          intro v7 w7 ho7 hE7 _ _
          have hE7' := hE7 _ hE6 (Nat.le_refl _)
          try simp (disch := first | omega | assumption | rfl) only [↓reduceIte, go_sem, Nat.reduceLT, Nat.reduceEqDiff, Nat.reduceSub]
          refine hK _ _ ?_; clear hK hgd; clear K; try clear gd
          repeat (with_reducible first | refine W_seq ?_ | refine W_block ?_ | refine W_skip ?_ | refine W_ret ?_ | refine W_exit ?_ | refine thenQ_normal ?_ | refine thenQ_exit ?_ | refine thenQ_ret ?_ | refine blockQ_normal ?_ | refine blockQ_ret ?_ | refine blockQ_same ?_ | refine blockQ_other rfl ?_)
          refine W_reg (by rfl) ?_; intro gd K hgd hK; simp (disch := first | omega | assumption | rfl) only [↓reduceIte, go_sem, Nat.reduceLT, Nat.reduceEqDiff, Nat.reduceSub, e6]; refine hK _ _ ?_; clear hK hgd; clear K gd
          repeat (with_reducible first | refine W_seq ?_ | refine W_block ?_ | refine W_skip ?_ | refine W_ret ?_ | refine W_exit ?_ | refine thenQ_normal ?_ | refine thenQ_exit ?_ | refine thenQ_ret ?_ | refine blockQ_normal ?_ | refine blockQ_ret ?_ | refine blockQ_same ?_ | refine blockQ_other rfl ?_)
          refine ⟨m - 1, by omega, rfl, i + 1, v7, L'.take k ++ [F.drop i] ++ L'.drop k, by omega, by simp only [↓reduceIte, go_sem, Nat.reduceLT, Nat.reduceEqDiff, Nat.reduceSub]; push_cast; rfl, by simp only [↓reduceIte, go_sem, Nat.reduceLT, Nat.reduceEqDiff, Nat.reduceSub, e5], by simp only [↓reduceIte, go_sem, Nat.reduceLT, Nat.reduceEqDiff, Nat.reduceSub], (hE.trans hE2).trans hE7', ⟨_, RowZ.own ho7 (fun b hb => by have := hS b hb; have := hE1.size; have := hE.size; have := hE2.size; omega), ?_⟩, hR.insert hlo hhi, fun g => ?_, by simp; omega⟩
          · exact (hrows.imp fun v n h => h.ext (hE2.trans hE7')).insert (htail ((hE.trans hE2).trans hE7')) hk
          · rw [mem_insert, hmem g]
            constructor
            · rintro ((h | ⟨j, hj, h⟩) | h)
              · exact .inl h
              · exact .inr ⟨j, by omega, h⟩
              · exact .inr ⟨i, by omega, h⟩
            · rintro (h | ⟨j, hj, h⟩)
              · exact .inl (.inl h)
              · by_cases hji : j < i
                · exact .inl (.inr ⟨j, hji, h⟩)
                · rw [show i = j from by omega]; exact .inr h
    · intro hge
      simp only [decide_eq_false_iff_not] at hge
      repeat (first | (with_reducible first | refine W_seq ?_ | refine W_block ?_ | refine W_skip ?_ | refine W_ret ?_ | refine W_exit ?_ | refine thenQ_normal ?_ | refine thenQ_exit ?_ | refine thenQ_ret ?_ | refine blockQ_normal ?_ | refine blockQ_ret ?_ | refine blockQ_same ?_ | refine blockQ_other rfl ?_) | (refine W_reg (by rfl) ?_; intro gd K hgd hK; simp (disch := first | omega | assumption | rfl) only [↓reduceIte, go_sem, Nat.reduceLT, Nat.reduceEqDiff, Nat.reduceSub, h0]; refine hK _ _ ?_; clear hK hgd; clear K gd))
      refine ret_one (by simp) rfl Try.ntmps11 (by simp only [↓reduceIte, go_sem, Nat.reduceLT, Nat.reduceEqDiff, Nat.reduceSub, h0]; rfl) ?_
      refine ⟨hE1.trans hE, L', hN, hR, fun g => ?_, by omega⟩
      rw [hmem g]
      constructor
      · rintro (h | ⟨k, hk, h⟩)
        · exact .inl h
        · exact .inr ⟨k, by omega, h⟩
      · rintro (h | ⟨k, hk, h⟩)
        · exact .inl h
        · exact .inr ⟨k, by omega, h⟩
end Go.Proofs.Ytciadbhnodgpgaa
