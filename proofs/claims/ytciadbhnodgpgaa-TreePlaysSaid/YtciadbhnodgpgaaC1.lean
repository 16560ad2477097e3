/-
  The contracts of package label: going over a text's octets, folding.
  Conditions: none.
-/
import Derived.Test.YtciadbhnodgpgaaSF
import Derived.Test.YtciadbhnodgpgaaK11
set_option linter.unusedVariables false
set_option linter.unusedSimpArgs false
set_option linter.defProp false
namespace Go.Proofs.Ytciadbhnodgpgaa
open Go
set_option maxRecDepth 10000

theorem cell_keepB {n0 : Nat} {C : Nat → Prop} {w x : World} (hk : KeepB n0 C w x) {a : Addr} (hn : a.block < n0) (hC : ¬ C a.block) {v : Value} (h : w.cell? a = some v) : x.cell? a = some v := by
  rw [← h]; exact World.cell?_of_block (w := w) (hk.block a.block hn hC)
theorem cell_ext {w x : World} (hk : Ext w x) {a : Addr} {v : Value} (h : w.cell? a = some v) : x.cell? a = some v := cell_keep hk (fun h => h) h

theorem take_succ' {α : Type} {l : List α} {i : Nat} (h : i < l.length) : l.take (i + 1) = l.take i ++ [l[i]] := by
  rw [List.take_succ_eq_append_getElem h]
theorem split_at {α : Type} {l : List α} {i : Nat} (h : i < l.length) : l = l.take i ++ l[i] :: l.drop (i + 1) := by
  rw [← List.drop_eq_getElem_cons h, List.take_append_drop]

theorem zipIdx_split {α : Type} {l : List α} {pre suf : List (α × Nat)} {x : α × Nat} (h : l.zipIdx = pre ++ x :: suf) : ∃ hk : pre.length < l.length, x = (l[pre.length], pre.length) := by
  have hk : pre.length < l.length := by have := congrArg List.length h; simp at this; omega
  refine ⟨hk, ?_⟩
  have h1 : l.zipIdx[pre.length]? = some x := by rw [h]; simp
  rw [List.getElem?_zipIdx] at h1
  simp [hk] at h1
  exact h1.symm

def encOct (p : UInt8 × Nat) (_ : World) (args : Array Value) : Prop := args = #[vi p.2, byteV p.1]

theorem octets1_ok {W0 : World} {n0 : Nat} {C : Nat → Prop} {b : Nat} {l : List UInt8} (hb : W0.cell? ⟨b, 0, Option.none⟩ = some (vs l)) (hbn : b < n0) (hbC : ¬ C b) (hl : l.length ≤ 9000000000000000000) :
    Iter Try.prog 64 #[.pointer (some ⟨b, 0, Option.none⟩)] W0 n0 C l.zipIdx encOct := by
  intro lp J Jx W hW hnW hJ hJx hY h0
  refine enter Try.func64 Try.ntmps64 rfl rfl ?_
  repeat (first | (with_reducible first | refine W_seq ?_ | refine W_block ?_ | refine W_skip ?_ | refine W_ret ?_ | refine W_exit ?_ | refine thenQ_normal ?_ | refine thenQ_exit ?_ | refine thenQ_ret ?_ | refine blockQ_normal ?_ | refine blockQ_ret ?_ | refine blockQ_same ?_ | refine blockQ_other rfl ?_) | (refine W_reg (by rfl) ?_; intro gd K hgd hK; simp (disch := first | omega | assumption | rfl) only [↓reduceIte, go_sem, Nat.reduceLT, Nat.reduceEqDiff, Nat.reduceSub]; refine hK _ _ ?_; clear hK hgd; clear K gd))
  refine W_loop (fun m σ ds v => ds = [] ∧ ∃ i, i + m = l.length ∧ σ 3 = vi i ∧ σ 0 = .func (.yield lp) #[] #[] ∧ σ 1 = .pointer (some ⟨b, 0, Option.none⟩) ∧ J (l.zipIdx.take i) v ∧ KeepB n0 C W v) l.length ?_ ?_
  · refine ⟨rfl, 0, by omega, ?_, ?_, ?_, by simpa using h0, KeepB.refl _ _ _⟩ <;> simp only [↓reduceIte, go_sem, Nat.reduceLT, Nat.reduceEqDiff, Nat.reduceSub] <;> rfl
  · rintro m σ ds v ⟨rfl, i, him, h3, hf0, hf1, hj, hK0⟩
    have hcell : cellO v (some ⟨b, 0, Option.none⟩) = some (vs l) := cell_keepB hK0 hbn hbC (cell_ext hW hb)
    repeat (with_reducible first | refine W_seq ?_ | refine W_block ?_ | refine W_skip ?_ | refine W_ret ?_ | refine W_exit ?_ | refine thenQ_normal ?_ | refine thenQ_exit ?_ | refine thenQ_ret ?_ | refine blockQ_normal ?_ | refine blockQ_ret ?_ | refine blockQ_same ?_ | refine blockQ_other rfl ?_)
    refine W_reg (by rfl) ?_; intro gd K hgd hK; simp (disch := first | omega | assumption | rfl) only [↓reduceIte, go_sem, Nat.reduceLT, Nat.reduceEqDiff, Nat.reduceSub, h3, hf0, hf1, hcell]; refine hK _ _ ?_; clear hK hgd; clear K gd
    refine W_cond (by simp only [↓reduceIte, go_sem, Nat.reduceLT, Nat.reduceEqDiff, Nat.reduceSub]; rfl) ?_ ?_
    · intro hlt
      simp only [decide_eq_true_eq] at hlt
      have hi : i < l.zipIdx.length := by simp; omega
      repeat (with_reducible first | refine W_seq ?_ | refine W_block ?_ | refine W_skip ?_ | refine W_ret ?_ | refine W_exit ?_ | refine thenQ_normal ?_ | refine thenQ_exit ?_ | refine thenQ_ret ?_ | refine blockQ_normal ?_ | refine blockQ_ret ?_ | refine blockQ_same ?_ | refine blockQ_other rfl ?_)
      refine W_reg (by rfl) ?_; intro gd K hgd hK
      try simp (disch := first | omega | assumption | rfl) only [↓reduceIte, go_sem, Nat.reduceLT, Nat.reduceEqDiff, Nat.reduceSub, h3, hf0, hf1, hcell]
      refine Yld.mono (hY (l.zipIdx.take i) l.zipIdx[i] (l.zipIdx.drop (i + 1)) v _ (split_at hi) hj hK0 (by simp [encOct, byteV])) ?_
      rintro u x (⟨rfl, hj', hk'⟩ | ⟨rfl, hjx⟩)
      · try simp (disch := first | omega | assumption | rfl) only [↓reduceIte, go_sem, Nat.reduceLT, Nat.reduceEqDiff, Nat.reduceSub]
        refine hK _ _ ?_; clear hK hgd; clear K; try clear gd
        repeat (with_reducible first | refine W_seq ?_ | refine W_block ?_ | refine W_skip ?_ | refine W_ret ?_ | refine W_exit ?_ | refine thenQ_normal ?_ | refine thenQ_exit ?_ | refine thenQ_ret ?_ | refine blockQ_normal ?_ | refine blockQ_ret ?_ | refine blockQ_same ?_ | refine blockQ_other rfl ?_)
        refine W_cond (by simp only [↓reduceIte, go_sem, Nat.reduceLT, Nat.reduceEqDiff, Nat.reduceSub]; rfl) ?_ ?_
        · intro h; simp at h
        · intro _
          repeat (with_reducible first | refine W_seq ?_ | refine W_block ?_ | refine W_skip ?_ | refine W_ret ?_ | refine W_exit ?_ | refine thenQ_normal ?_ | refine thenQ_exit ?_ | refine thenQ_ret ?_ | refine blockQ_normal ?_ | refine blockQ_ret ?_ | refine blockQ_same ?_ | refine blockQ_other rfl ?_)
          refine W_reg (by rfl) ?_; intro gd K hgd hK; simp (disch := first | omega | assumption | rfl) only [↓reduceIte, go_sem, Nat.reduceLT, Nat.reduceEqDiff, Nat.reduceSub, h3]; refine hK _ _ ?_; clear hK hgd; clear K gd
          refine thenQ_normal ?_
          refine ⟨m - 1, by omega, rfl, i + 1, by omega, ?_, ?_, ?_, ?_, hK0.trans hk'⟩
          · simp only [↓reduceIte, go_sem, Nat.reduceLT, Nat.reduceEqDiff, Nat.reduceSub]; rfl
          · simp only [↓reduceIte, go_sem, Nat.reduceLT, Nat.reduceEqDiff, Nat.reduceSub, hf0]
          · simp only [↓reduceIte, go_sem, Nat.reduceLT, Nat.reduceEqDiff, Nat.reduceSub, hf1]
          · rw [take_succ' hi]; exact hj'
      · try simp (disch := first | omega | assumption | rfl) only [↓reduceIte, go_sem, Nat.reduceLT, Nat.reduceEqDiff, Nat.reduceSub]
        refine hK _ _ ?_; clear hK hgd; clear K; try clear gd
        repeat (with_reducible first | refine W_seq ?_ | refine W_block ?_ | refine W_skip ?_ | refine W_ret ?_ | refine W_exit ?_ | refine thenQ_normal ?_ | refine thenQ_exit ?_ | refine thenQ_ret ?_ | refine blockQ_normal ?_ | refine blockQ_ret ?_ | refine blockQ_same ?_ | refine blockQ_other rfl ?_)
        refine W_cond (by simp only [↓reduceIte, go_sem, Nat.reduceLT, Nat.reduceEqDiff, Nat.reduceSub]; rfl) ?_ ?_
        · intro _
          repeat (with_reducible first | refine W_seq ?_ | refine W_block ?_ | refine W_skip ?_ | refine W_ret ?_ | refine W_exit ?_ | refine thenQ_normal ?_ | refine thenQ_exit ?_ | refine thenQ_ret ?_ | refine blockQ_normal ?_ | refine blockQ_ret ?_ | refine blockQ_same ?_ | refine blockQ_other rfl ?_)
          refine ret_none (by simp) rfl (.inr ⟨_, _, _, split_at hi, hjx⟩)
        · intro h; simp at h
    · intro hge
      simp only [decide_eq_false_iff_not] at hge
      repeat (with_reducible first | refine W_seq ?_ | refine W_block ?_ | refine W_skip ?_ | refine W_ret ?_ | refine W_exit ?_ | refine thenQ_normal ?_ | refine thenQ_exit ?_ | refine thenQ_ret ?_ | refine blockQ_normal ?_ | refine blockQ_ret ?_ | refine blockQ_same ?_ | refine blockQ_other rfl ?_)
      refine ret_none (by simp) rfl (.inl ?_)
      have : l.zipIdx.take i = l.zipIdx := List.take_of_length_le (by simp; omega)
      rw [this] at hj; exact hj

theorem octets_ok (w : World) (l : List UInt8) (hl : l.length ≤ 9000000000000000000) : Fn Try.prog 52 #[vs l] w (fun v w' => Ext w w' ∧ ∃ cap, v = .func (.func 64) #[] cap ∧
    ∀ C : Nat → Prop, (∀ b, C b → b < w.heap.size) → Iter Try.prog 64 cap w' w'.heap.size C l.zipIdx encOct) := by
  refine enter Try.func52 Try.ntmps52 rfl rfl ?_
  repeat (with_reducible first | refine W_seq ?_ | refine W_block ?_ | refine W_skip ?_ | refine W_ret ?_ | refine W_exit ?_ | refine thenQ_normal ?_ | refine thenQ_exit ?_ | refine thenQ_ret ?_ | refine blockQ_normal ?_ | refine blockQ_ret ?_ | refine blockQ_same ?_ | refine blockQ_other rfl ?_)
  refine W_reg (by rfl) ?_; intro gd K hgd hK; simp (disch := first | omega | assumption | rfl) only [↓reduceIte, go_sem, Nat.reduceLT, Nat.reduceEqDiff, Nat.reduceSub]; refine hK _ _ ?_; clear hK hgd; clear K gd
  repeat (with_reducible first | refine W_seq ?_ | refine W_block ?_ | refine W_skip ?_ | refine W_ret ?_ | refine W_exit ?_ | refine thenQ_normal ?_ | refine thenQ_exit ?_ | refine thenQ_ret ?_ | refine blockQ_normal ?_ | refine blockQ_ret ?_ | refine blockQ_same ?_ | refine blockQ_other rfl ?_)
  refine W_reg (by rfl) ?_; intro gd K hgd hK; simp (disch := first | omega | assumption | rfl) only [↓reduceIte, go_sem, Nat.reduceLT, Nat.reduceEqDiff, Nat.reduceSub]; refine hK _ _ ?_; clear hK hgd; clear K gd
  repeat (with_reducible first | refine W_seq ?_ | refine W_block ?_ | refine W_skip ?_ | refine W_ret ?_ | refine W_exit ?_ | refine thenQ_normal ?_ | refine thenQ_exit ?_ | refine thenQ_ret ?_ | refine blockQ_normal ?_ | refine blockQ_ret ?_ | refine blockQ_same ?_ | refine blockQ_other rfl ?_)
  refine ret_one (by simp) rfl Try.ntmps52 (by simp only [↓reduceIte, go_sem, Nat.reduceLT, Nat.reduceEqDiff, Nat.reduceSub]; rfl) ?_
  refine ⟨Ext.alloc _ _, _, rfl, fun C hC => octets1_ok ?_ (by simp) (fun h => by have := hC _ h; omega) hl⟩
  rw [cell_of (new_block _ _)]; rfl

def foldB (c : UInt8) : UInt8 := if 65 ≤ c ∧ c ≤ 90 then c + 32 else c
def foldL (l : List UInt8) : List UInt8 := l.map foldB

/-- the octets behind so many rounds -/
def foldTo (l : List UInt8) (k : Nat) : List UInt8 := foldL (l.take k) ++ l.drop k

theorem foldTo_step {l : List UInt8} {k : Nat} (hk : k < l.length) : (foldTo l k).set k (foldB l[k]) = foldTo l (k + 1) := by
  unfold foldTo foldL
  have e : (List.map foldB (l.take k)).length = k := by simp; omega
  rw [take_succ' hk, List.map_append, List.set_append_right _ _ (by omega), e, Nat.sub_self, List.drop_eq_getElem_cons hk, List.set_cons_zero]
  simp
theorem foldTo_len (l : List UInt8) (k : Nat) : (foldTo l k).length = l.length := by simp [foldTo, foldL]; omega

theorem foldB_up {c : UInt8} (h : 65 ≤ c ∧ c ≤ 90) : foldB c = c + 32 := if_pos h
theorem foldB_no {c : UInt8} (h : ¬ (65 ≤ c ∧ c ≤ 90)) : foldB c = c := if_neg h
theorem foldTo_same {l : List UInt8} {k : Nat} (hk : k < l.length) (h : ¬ (65 ≤ l[k] ∧ l[k] ≤ 90)) : foldTo l k = foldTo l (k + 1) := by
  rw [← foldTo_step hk, foldB_no h]
  apply List.ext_getElem?
  intro j
  rw [List.getElem?_set]
  split
  · rename_i hj; subst hj
    rw [if_pos (by rw [foldTo_len]; exact hk)]
    unfold foldTo foldL
    have e : (List.map foldB (l.take k)).length = k := by simp; omega
    rw [List.getElem?_append_right (by omega), e]
    simp [hk]
  · rfl

theorem LFold_ok (w : World) (l : List UInt8) (hl : l.length ≤ 9000000000000000000) : Fn Try.prog 32 #[vs l] w (fun v w' => v = vs (foldL l) ∧ Ext w w') := by
  refine enter Try.func32 Try.ntmps32 rfl rfl ?_
  repeat (first | (with_reducible first | refine W_seq ?_ | refine W_block ?_ | refine W_skip ?_ | refine W_ret ?_ | refine W_exit ?_ | refine thenQ_normal ?_ | refine thenQ_exit ?_ | refine thenQ_ret ?_ | refine blockQ_normal ?_ | refine blockQ_ret ?_ | refine blockQ_same ?_ | refine blockQ_other rfl ?_) | (refine W_reg (by rfl) ?_; intro gd K hgd hK; simp (disch := first | omega | assumption | rfl) only [↓reduceIte, go_sem, Nat.reduceLT, Nat.reduceEqDiff, Nat.reduceSub]; refine hK _ _ ?_; clear hK hgd; clear K gd))
  repeat (with_reducible first | refine W_seq ?_ | refine W_block ?_ | refine W_skip ?_ | refine W_ret ?_ | refine W_exit ?_ | refine thenQ_normal ?_ | refine thenQ_exit ?_ | refine thenQ_ret ?_ | refine blockQ_normal ?_ | refine blockQ_ret ?_ | refine blockQ_same ?_ | refine blockQ_other rfl ?_)
  refine W_reg (by rfl) ?_; intro gd K hgd hK
  try simp (disch := first | omega | assumption | rfl) only [↓reduceIte, go_sem, Nat.reduceLT, Nat.reduceEqDiff, Nat.reduceSub]
  refine conv_s2b rfl rfl rfl (by simp only [↓reduceIte, go_sem, Nat.reduceLT, Nat.reduceEqDiff, Nat.reduceSub]) ?_
  intro c cur w1 hlc hcur htake hE1 hsz1 hb1
  try simp (disch := first | omega | assumption | rfl) only [↓reduceIte, go_sem, Nat.reduceLT, Nat.reduceEqDiff, Nat.reduceSub]
  refine st_one rfl rfl rfl (new_block _ _) (by simp) (by simp) ?_
  intro w2 hsz2 hb2 hk2
  simp only [World.size_alloc] at hsz2 hb2 hk2
  have hE2 : Ext w w2 := hE1.trans (Keep.to_ext (Ext.alloc w1 _) rfl (fun b hb => by omega) hk2)
  have hgb : w2.heap[w.heap.size]? = some (.cells cur 5 (c, c + 1)) := (hk2.block _ (by simp; omega) (by omega)).trans ((RowKit.Below.heap_alloc _ _ _ (by omega)).trans hb1)
  rw [hsz1] at hsz2 hb2 ⊢
  simp at hb2
  clear hk2 hb1
  refine hK _ _ ?_; clear hK hgd; clear K; try clear gd
  repeat (with_reducible first | refine W_seq ?_ | refine W_block ?_ | refine W_skip ?_ | refine W_ret ?_ | refine W_exit ?_ | refine thenQ_normal ?_ | refine thenQ_exit ?_ | refine thenQ_ret ?_ | refine blockQ_normal ?_ | refine blockQ_ret ?_ | refine blockQ_same ?_ | refine blockQ_other rfl ?_)
  refine W_reg (by rfl) ?_; intro gd K hgd hK
  try simp (disch := first | omega | assumption | rfl) only [↓reduceIte, go_sem, Nat.reduceLT, Nat.reduceEqDiff, Nat.reduceSub]
  refine Fn.mono (octets_ok _ _ hl) ?_
  rintro _ w3 ⟨hE3, cap, rfl, hit⟩
  try simp (disch := first | omega | assumption | rfl) only [↓reduceIte, go_sem, Nat.reduceLT, Nat.reduceEqDiff, Nat.reduceSub]
  refine hK _ _ ?_; clear hK hgd; clear K; try clear gd
  repeat (with_reducible first | refine W_seq ?_ | refine W_block ?_ | refine W_skip ?_ | refine W_ret ?_ | refine W_exit ?_ | refine thenQ_normal ?_ | refine thenQ_exit ?_ | refine thenQ_ret ?_ | refine blockQ_normal ?_ | refine blockQ_ret ?_ | refine blockQ_same ?_ | refine blockQ_other rfl ?_)
  have hE3' := hE2.trans hE3
  have hsz3 := hE3.size
  refine W_range (g := 64) (cap := cap) (by simp only [↓reduceIte, go_sem, Nat.reduceLT, Nat.reduceEqDiff, Nat.reduceSub]) rfl (hit (fun b => b = w.heap.size) (fun b hb => by omega)) (Keep.refl _ _) (Nat.le_refl _) (fun b hb => by omega)
    (fun x A args h => by rw [h]; rfl)
    (fun pre A => Ext w A ∧ A.heap[w.heap.size + 1]? = some (.cells #[.slice (some ⟨w.heap.size, 0, Option.none⟩) l.length c] 90 (0, 0)) ∧
      ∃ cur : Array Value, cur.size = c ∧ cur.toList.take l.length = (foldTo l pre.length).map byteV ∧ A.heap[w.heap.size]? = some (.cells cur 5 (c, c + 1)))
    (fun _ _ _ => False) ?_ (fun _ _ _ _ h _ => h.elim) ?_ ?_ ?_ (fun _ _ _ _ _ _ _ h _ => h.elim)
  · rintro pre A B ⟨h1, h2, cu, h3, h4, h5⟩ hk
    have ne1 : ¬ two w3.heap.size (w.heap.size + 1) := by unfold two; omega
    have ne2 : ¬ two w3.heap.size w.heap.size := by unfold two; omega
    exact ⟨Keep.to_ext h1 rfl (fun b hb => by unfold two at hb; omega) hk, (hk.block _ (Array.getElem?_eq_some_iff.1 h2).1 ne1).trans h2, cu, h3, h4,
      (hk.block _ (Array.getElem?_eq_some_iff.1 h5).1 ne2).trans h5⟩
  · refine ⟨hE3', (hE3.block _ (by omega) (fun h => h)).trans hb2, cur, hcur, ?_, (hE3.block _ (by omega) (fun h => h)).trans hgb⟩
    simpa [foldTo, foldL] using htake
  · rintro lp pre x suf A args hxs hszA ⟨hEA, hbox, cu, hcu, hpre, hrow⟩ rfl
    obtain ⟨hk, rfl⟩ := zipIdx_split hxs
    dsimp only
    repeat (first | (with_reducible first | refine W_seq ?_ | refine W_block ?_ | refine W_skip ?_ | refine W_ret ?_ | refine W_exit ?_ | refine thenQ_normal ?_ | refine thenQ_exit ?_ | refine thenQ_ret ?_ | refine blockQ_normal ?_ | refine blockQ_ret ?_ | refine blockQ_same ?_ | refine blockQ_other rfl ?_) | (refine W_reg (by rfl) ?_; intro gd K hgd hK; simp (disch := first | omega | assumption | rfl) only [↓reduceIte, go_sem, Nat.reduceLT, Nat.reduceEqDiff, Nat.reduceSub, byteV]; refine hK _ _ ?_; clear hK hgd; clear K gd))
    refine ⟨rfl, KeepB.refl _ _ _, fun A2 hA2 => ?_⟩
    have ne1 : ¬ two w3.heap.size (w.heap.size + 1) := by unfold two; omega
    have ne2 : ¬ two w3.heap.size w.heap.size := by unfold two; omega
    have hbox2 := (hA2.block _ (Array.getElem?_eq_some_iff.1 hbox).1 ne1).trans hbox
    have hrow2 := (hA2.block _ (Array.getElem?_eq_some_iff.1 hrow).1 ne2).trans hrow
    have hE2' : Ext w A2 := Keep.to_ext hEA rfl (fun b hb => by unfold two at hb; omega) hA2
    have hs2 := hA2.size
    clear hbox hrow hA2 hit hb2 hgb
    have hcu' : cu[pre.length]? = some (byteV (l[pre.length])) := by
      have : (cu.toList.take l.length)[pre.length]? = some (byteV (l[pre.length])) := by
        rw [hpre, List.getElem?_map]
        unfold foldTo
        rw [List.getElem?_append_right (by simp [foldL]; omega)]
        have e : (foldL (l.take pre.length)).length = pre.length := by simp [foldL]; omega
        rw [e]; simp [hk]
      rw [List.getElem?_take, if_pos hk] at this
      simpa using this
    have hbit : ∀ u : UInt8, (65 ≤ u ↔ (65 : Int) ≤ u.toNat) ∧ (u ≤ 90 ↔ (u.toNat : Int) ≤ 90) := fun u => by
      rw [UInt8.le_iff_toNat_le, UInt8.le_iff_toNat_le]
      constructor
      · show 65 ≤ u.toNat ↔ _; omega
      · show u.toNat ≤ 90 ↔ _; omega
    have hkeep : ∀ B, A2 = B → ¬ (65 ≤ l[pre.length] ∧ l[pre.length] ≤ 90) → (Ext w B ∧ B.heap[w.heap.size + 1]? = some (.cells #[.slice (some ⟨w.heap.size, 0, Option.none⟩) l.length c] 90 (0, 0)) ∧
      ∃ cur : Array Value, cur.size = c ∧ cur.toList.take l.length = (foldTo l (pre ++ [(l[pre.length], pre.length)]).length).map byteV ∧ B.heap[w.heap.size]? = some (.cells cur 5 (c, c + 1))) ∧
        KeepB (w3.heap.size + 2) (fun b => b = w.heap.size) A2 B := by
      rintro B rfl hno
      refine ⟨⟨hE2', hbox2, cu, hcu, ?_, hrow2⟩, KeepB.refl _ _ _⟩
      rw [hpre, foldTo_same hk hno]; simp
    generalize hcc : l[pre.length] = cc at *
    repeat (with_reducible first | refine W_seq ?_ | refine W_block ?_ | refine W_skip ?_ | refine W_ret ?_ | refine W_exit ?_ | refine thenQ_normal ?_ | refine thenQ_exit ?_ | refine thenQ_ret ?_ | refine blockQ_normal ?_ | refine blockQ_ret ?_ | refine blockQ_same ?_ | refine blockQ_other rfl ?_)
    refine W_reg (by rfl) ?_; intro gd K hgd hK
    have hg2 : ∀ n σ b, wantV gd n σ (some (2, b)) = boolIs (ev n σ (.tmp 14)) b := (fun n σ b => by rw [wantV_some, show gd 2 = some 14 from (by rw [hgd]; rfl)]; rfl)
    by_cases h65 : (65 : Int) ≤ cc.toNat
    · try simp (disch := first | omega | assumption | rfl) only [↓reduceIte, go_sem, Nat.reduceLT, Nat.reduceEqDiff, Nat.reduceSub, hg2, wantV_some, wantO_some, boolIs_bool, decide_eq_true h65, beq_self_eq_true]
      refine hK _ _ ?_; clear hK hgd; clear K; try clear gd
      repeat (with_reducible first | refine W_seq ?_ | refine W_block ?_ | refine W_skip ?_ | refine W_ret ?_ | refine W_exit ?_ | refine thenQ_normal ?_ | refine thenQ_exit ?_ | refine thenQ_ret ?_ | refine blockQ_normal ?_ | refine blockQ_ret ?_ | refine blockQ_same ?_ | refine blockQ_other rfl ?_)
      refine W_cond (by simp only [↓reduceIte, go_sem, Nat.reduceLT, Nat.reduceEqDiff, Nat.reduceSub]; rfl) ?_ ?_
      · intro h90
        simp only [decide_eq_true_eq] at h90
        have hc1 : cellO A2 (some ⟨w.heap.size + 1, 0, Option.none⟩) = some (.slice (some ⟨w.heap.size, 0, Option.none⟩) l.length c) := by
          show A2.cell? _ = _
          rw [cell_of hbox2]; rfl
        repeat (with_reducible first | refine W_seq ?_ | refine W_block ?_ | refine W_skip ?_ | refine W_ret ?_ | refine W_exit ?_ | refine thenQ_normal ?_ | refine thenQ_exit ?_ | refine thenQ_ret ?_ | refine blockQ_normal ?_ | refine blockQ_ret ?_ | refine blockQ_same ?_ | refine blockQ_other rfl ?_)
        refine W_reg (by rfl) ?_; intro gd K hgd hK
        try simp (disch := first | omega | assumption | rfl) only [↓reduceIte, go_sem, Nat.reduceLT, Nat.reduceEqDiff, Nat.reduceSub, hc1]
        refine st_one rfl rfl rfl hrow2 (by omega) (by simp; omega) ?_
        intro w5 hsz5 hb5 hk5
        refine hK _ _ ?_; clear hK hgd; clear K; try clear gd
        repeat (with_reducible first | refine W_seq ?_ | refine W_block ?_ | refine W_skip ?_ | refine W_ret ?_ | refine W_exit ?_ | refine thenQ_normal ?_ | refine thenQ_exit ?_ | refine thenQ_ret ?_ | refine blockQ_normal ?_ | refine blockQ_ret ?_ | refine blockQ_same ?_ | refine blockQ_other rfl ?_)
        have hset : ((foldTo l pre.length).map byteV).set pre.length (.int .u8 (↑cc.toNat + 97 - 65)) = (foldTo l (pre.length + 1)).map byteV := by
          rw [← foldTo_step hk, hcc, List.map_set]
          congr 1
          rw [foldB_up ⟨(hbit cc).1.2 h65, (hbit cc).2.2 h90⟩]
          unfold byteV
          congr 1
          have : (cc + 32).toNat = cc.toNat + 32 := by
            rw [UInt8.toNat_add]; show (cc.toNat + 32) % 256 = _; omega
          rw [this]; push_cast; omega
        refine ⟨⟨Keep.to_ext hE2' rfl (fun b hb => by omega) hk5, ?_, cu.setIfInBounds pre.length (.int .u8 (↑cc.toNat + 97 - 65)), by simpa using hcu, ?_, hb5⟩, hk5.toB (by omega) (fun i _ h => h)⟩
        · exact (hk5.block _ (by omega) (by omega)).trans hbox2
        · rw [Array.toList_setIfInBounds, List.take_set, hpre, hset]; simp
      · intro h90
        simp only [decide_eq_false_iff_not] at h90
        repeat (with_reducible first | refine W_seq ?_ | refine W_block ?_ | refine W_skip ?_ | refine W_ret ?_ | refine W_exit ?_ | refine thenQ_normal ?_ | refine thenQ_exit ?_ | refine thenQ_ret ?_ | refine blockQ_normal ?_ | refine blockQ_ret ?_ | refine blockQ_same ?_ | refine blockQ_other rfl ?_)
        exact hkeep _ rfl (fun h => h90 ((hbit cc).2.1 h.2))
    · try simp (disch := first | omega | assumption | rfl) only [↓reduceIte, go_sem, Nat.reduceLT, Nat.reduceEqDiff, Nat.reduceSub, hg2, wantV_some, wantO_some, boolIs_bool, decide_eq_false h65, beq_self_eq_true]
      refine hK _ _ ?_; clear hK hgd; clear K; try clear gd
      repeat (with_reducible first | refine W_seq ?_ | refine W_block ?_ | refine W_skip ?_ | refine W_ret ?_ | refine W_exit ?_ | refine thenQ_normal ?_ | refine thenQ_exit ?_ | refine thenQ_ret ?_ | refine blockQ_normal ?_ | refine blockQ_ret ?_ | refine blockQ_same ?_ | refine blockQ_other rfl ?_)
      refine W_cond (by simp only [↓reduceIte, go_sem, Nat.reduceLT, Nat.reduceEqDiff, Nat.reduceSub]; rfl) ?_ ?_
      · intro h; simp at h
      · intro _
        repeat (with_reducible first | refine W_seq ?_ | refine W_block ?_ | refine W_skip ?_ | refine W_ret ?_ | refine W_exit ?_ | refine thenQ_normal ?_ | refine thenQ_exit ?_ | refine thenQ_ret ?_ | refine blockQ_normal ?_ | refine blockQ_ret ?_ | refine blockQ_same ?_ | refine blockQ_other rfl ?_)
        exact hkeep _ rfl (fun h => h65 ((hbit cc).1.1 h.1))
  · rintro w4 hsz4 ⟨hE4, hbox, cu, hcu, hpre, hrow⟩ hD
    have hc1 : cellO w4 (some ⟨w.heap.size + 1, 0, Option.none⟩) = some (.slice (some ⟨w.heap.size, 0, Option.none⟩) l.length c) := by
      show w4.cell? _ = _
      rw [cell_of hbox]; rfl
    have hfull : foldTo l l.zipIdx.length = foldL l := by simp [foldTo]
    rw [hfull] at hpre
    have hlen : (foldL l).length = l.length := by simp [foldL]
    repeat (with_reducible first | refine W_seq ?_ | refine W_block ?_ | refine W_skip ?_ | refine W_ret ?_ | refine W_exit ?_ | refine thenQ_normal ?_ | refine thenQ_exit ?_ | refine thenQ_ret ?_ | refine blockQ_normal ?_ | refine blockQ_ret ?_ | refine blockQ_same ?_ | refine blockQ_other rfl ?_)
    refine W_reg (by rfl) ?_; intro gd K hgd hK
    try simp (disch := first | omega | assumption | rfl) only [↓reduceIte, go_sem, Nat.reduceLT, Nat.reduceEqDiff, Nat.reduceSub, hc1]
    rw [← hlen]
    refine conv_b2s rfl rfl rfl (by simp only [↓reduceIte, go_sem, Nat.reduceLT, Nat.reduceEqDiff, Nat.reduceSub]) ?_ ?_
    · intro j hj
      rw [hlen] at hj
      rw [adr_some]
      show w4.cell? _ = _
      rw [cell_of hrow]
      have : (cu.toList.take l.length)[j]? = some (byteV ((foldL l)[j]'(by omega))) := by
        rw [hpre, List.getElem?_map, List.getElem?_eq_getElem (by omega)]; rfl
      rw [List.getElem?_take, if_pos hj] at this
      simpa using this
    try simp (disch := first | omega | assumption | rfl) only [↓reduceIte, go_sem, Nat.reduceLT, Nat.reduceEqDiff, Nat.reduceSub]
    refine hK _ _ ?_; clear hK hgd; clear K; try clear gd
    repeat (with_reducible first | refine W_seq ?_ | refine W_block ?_ | refine W_skip ?_ | refine W_ret ?_ | refine W_exit ?_ | refine thenQ_normal ?_ | refine thenQ_exit ?_ | refine thenQ_ret ?_ | refine blockQ_normal ?_ | refine blockQ_ret ?_ | refine blockQ_same ?_ | refine blockQ_other rfl ?_)
    refine ret_mark (by simp) rfl Try.ntmps32 (by simp only [↓reduceIte, go_sem, Nat.reduceLT, Nat.reduceEqDiff, Nat.reduceSub]; rfl) hD ?_
    intro w5 hk5 _
    exact ⟨rfl, Keep.to_ext hE4 rfl (fun b hb => by omega) hk5⟩
end Go.Proofs.Ytciadbhnodgpgaa
