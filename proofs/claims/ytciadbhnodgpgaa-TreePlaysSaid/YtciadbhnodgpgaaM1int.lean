/-
  maps.Keys: the keys of a node's map, in whatever order; at elements of type int.
  Conditions: none.
-/
import Derived.Test.YtciadbhnodgpgaaT1int
import Derived.Test.YtciadbhnodgpgaaK12
set_option linter.unusedVariables false
set_option linter.unusedSimpArgs false
set_option linter.defProp false
namespace Go.Proofs.Ytciadbhnodgpgaa.T_int
open Go Go.Proofs.Ytciadbhnodgpgaa
set_option maxRecDepth 10000

def encK (k : Lab) (_ : World) (args : Array Value) : Prop := args = #[vs k]
def preK (l : List (Lab × Value)) (pre : List Lab) (k : Lab) : Prop := k ∈ l.map (·.1) ∧ k ∉ pre ∧ pre.Nodup ∧ ∀ j ∈ pre, j ∈ l.map (·.1)
def fullK (l : List (Lab × Value)) (xs : List Lab) : Prop := xs.Perm (l.map (·.1))

theorem nodup_len {α : Type} [DecidableEq α] : ∀ {l m : List α}, l.Nodup → (∀ a ∈ l, a ∈ m) → l.length ≤ m.length
  | [], _, _, _ => Nat.zero_le _
  | a :: l, m, h, hs => by
    have h1 := List.nodup_cons.1 h
    have ha := hs a (List.mem_cons_self ..)
    have := nodup_len (l := l) (m := m.erase a) h1.2 (fun b hb => (List.mem_erase_of_ne (fun (e : b = a) => h1.1 (e ▸ hb))).2 (hs b (List.mem_cons_of_mem _ hb)))
    rw [List.length_erase_of_mem ha] at this
    have := List.length_pos_of_mem ha
    simp; omega

theorem keys1_ok {W0 : World} {n0 : Nat} {C : Nat → Prop} {b m : Nat} {l : List (Lab × Value)} (hb : W0.cell? ⟨b, 0, Option.none⟩ = some (.map (some m))) (hm : MapAt W0 m l) (hn : (l.map (·.1)).Nodup)
    (hbn : b < n0) (hbC : ¬ C b) (hmn : m < n0) (hmC : ¬ C m) :
    IterG Try.prog 68 #[.pointer (some ⟨b, 0, Option.none⟩)] W0 n0 C 1 (preK l) (fullK l) encK := by
  intro lp J Jx W hW hnW hJ hJx hY h0
  have hmW : MapAt W m l := hm.block (hW.block _ (by obtain ⟨es, clk, h1, _⟩ := hm; exact (Array.getElem?_eq_some_iff.1 h1).1) (fun h => h))
  have hcell : cellO W (some ⟨b, 0, Option.none⟩) = some (.map (some m)) := cell_ext hW hb
  refine enter Try.func68 Try.ntmps68 rfl rfl ?_
  repeat (with_reducible first | refine W_seq ?_ | refine W_block ?_ | refine W_skip ?_ | refine W_ret ?_ | refine W_exit ?_ | refine thenQ_normal ?_ | refine thenQ_exit ?_ | refine thenQ_ret ?_ | refine blockQ_normal ?_ | refine blockQ_ret ?_ | refine blockQ_same ?_ | refine blockQ_other rfl ?_)
  refine W_reg (by rfl) ?_; intro gd K hgd hK
  try simp (disch := first | omega | assumption | rfl) only [↓reduceIte, go_sem, Nat.reduceLT, Nat.reduceEqDiff, Nat.reduceSub, hcell]
  refine op_range rfl (by simp only [↓reduceIte, go_sem, Nat.reduceLT, Nat.reduceEqDiff, Nat.reduceSub]) hmW ?_
  intro W1 hit1 hE1 hs1
  try simp (disch := first | omega | assumption | rfl) only [↓reduceIte, go_sem, Nat.reduceLT, Nat.reduceEqDiff, Nat.reduceSub]
  refine hK _ _ ?_; clear hK hgd; clear K; try clear gd
  repeat (with_reducible first | refine W_seq ?_ | refine W_block ?_ | refine W_skip ?_ | refine W_ret ?_ | refine W_exit ?_ | refine thenQ_normal ?_ | refine thenQ_exit ?_ | refine thenQ_ret ?_ | refine blockQ_normal ?_ | refine blockQ_ret ?_ | refine blockQ_same ?_ | refine blockQ_other rfl ?_)
  refine W_loop (fun k σ ds v => ds = [] ∧ σ 5 = .pointer (some ⟨W.heap.size, 0, Option.none⟩) ∧ σ 0 = .func (.yield lp) #[] #[] ∧ ∃ pre, MapIt v W.heap.size m l pre ∧ J pre v ∧ KeepB n0 C W v ∧ W.heap.size + 1 ≤ v.heap.size ∧
    pre.Nodup ∧ (∀ j ∈ pre, j ∈ l.map (·.1)) ∧ k + pre.length = (l.map (·.1)).length) (l.map (·.1)).length ?_ ?_
  · refine ⟨rfl, by simp only [↓reduceIte, go_sem, Nat.reduceLT, Nat.reduceEqDiff, Nat.reduceSub], by simp only [↓reduceIte, go_sem, Nat.reduceLT, Nat.reduceEqDiff, Nat.reduceSub], [], hit1, ?_, hE1.toB hnW (fun _ _ h => h.elim), by omega, by simp, by simp, by simp⟩
    exact hJ _ _ _ h0 (hE1.mono (fun _ _ h => h.elim))
  · rintro k σ ds v ⟨rfl, h5, hf0, pre, hit, hj, hKB, hsz, hnd, hsub, hlen⟩
    repeat (with_reducible first | refine W_seq ?_ | refine W_block ?_ | refine W_skip ?_ | refine W_ret ?_ | refine W_exit ?_ | refine thenQ_normal ?_ | refine thenQ_exit ?_ | refine thenQ_ret ?_ | refine blockQ_normal ?_ | refine blockQ_ret ?_ | refine blockQ_same ?_ | refine blockQ_other rfl ?_)
    refine W_reg (by rfl) ?_; intro gd K hgd hK
    try simp (disch := first | omega | assumption | rfl) only [↓reduceIte, go_sem, Nat.reduceLT, Nat.reduceEqDiff, Nat.reduceSub, h5]
    have hkr : ∀ x, Keep (fun b => b = W.heap.size) v x → KeepB n0 C W x := fun x hx => hKB.trans (hx.toB (by have := hKB.size; omega) (fun i hi h => by omega))
    refine op_next (by simp only [↓reduceIte, go_sem, Nat.reduceLT, Nat.reduceEqDiff, Nat.reduceSub, h5]) hit hn ?_ ?_
    · intro hall
      try simp (disch := first | omega | assumption | rfl) only [↓reduceIte, go_sem, Nat.reduceLT, Nat.reduceEqDiff, Nat.reduceSub]
      refine hK _ _ ?_; clear hK hgd; clear K; try clear gd
      repeat (with_reducible first | refine W_seq ?_ | refine W_block ?_ | refine W_skip ?_ | refine W_ret ?_ | refine W_exit ?_ | refine thenQ_normal ?_ | refine thenQ_exit ?_ | refine thenQ_ret ?_ | refine blockQ_normal ?_ | refine blockQ_ret ?_ | refine blockQ_same ?_ | refine blockQ_other rfl ?_)
      refine W_cond (by simp only [↓reduceIte, go_sem, Nat.reduceLT, Nat.reduceEqDiff, Nat.reduceSub]; rfl) ?_ ?_
      · intro h; simp at h
      · intro _
        repeat (with_reducible first | refine W_seq ?_ | refine W_block ?_ | refine W_skip ?_ | refine W_ret ?_ | refine W_exit ?_ | refine thenQ_normal ?_ | refine thenQ_exit ?_ | refine thenQ_ret ?_ | refine blockQ_normal ?_ | refine blockQ_ret ?_ | refine blockQ_same ?_ | refine blockQ_other rfl ?_)
        refine ret_none (by simp) rfl (.inl ⟨pre, ?_, hj⟩)
        exact (List.perm_ext_iff_of_nodup hnd hn).2 fun a => ⟨hsub a, hall a⟩
    · intro key u w2 hkv hnk hit2 hk2 hs2
      have hkm : key ∈ l.map (·.1) := List.mem_map.2 ⟨_, hkv, rfl⟩
      try simp (disch := first | omega | assumption | rfl) only [↓reduceIte, go_sem, Nat.reduceLT, Nat.reduceEqDiff, Nat.reduceSub]
      refine hK _ _ ?_; clear hK hgd; clear K; try clear gd
      repeat (with_reducible first | refine W_seq ?_ | refine W_block ?_ | refine W_skip ?_ | refine W_ret ?_ | refine W_exit ?_ | refine thenQ_normal ?_ | refine thenQ_exit ?_ | refine thenQ_ret ?_ | refine blockQ_normal ?_ | refine blockQ_ret ?_ | refine blockQ_same ?_ | refine blockQ_other rfl ?_)
      refine W_cond (by simp only [↓reduceIte, go_sem, Nat.reduceLT, Nat.reduceEqDiff, Nat.reduceSub]; rfl) ?_ ?_
      · intro _
        repeat (with_reducible first | refine W_seq ?_ | refine W_block ?_ | refine W_skip ?_ | refine W_ret ?_ | refine W_exit ?_ | refine thenQ_normal ?_ | refine thenQ_exit ?_ | refine thenQ_ret ?_ | refine blockQ_normal ?_ | refine blockQ_ret ?_ | refine blockQ_same ?_ | refine blockQ_other rfl ?_)
        refine W_reg (by rfl) ?_; intro gd K hgd hK
        try simp (disch := first | omega | assumption | rfl) only [↓reduceIte, go_sem, Nat.reduceLT, Nat.reduceEqDiff, Nat.reduceSub, h5]
        refine op_entry (by simp only [↓reduceIte, go_sem, Nat.reduceLT, Nat.reduceEqDiff, Nat.reduceSub, h5]) hit2 (fun u' => ?_)
        try simp (disch := first | omega | assumption | rfl) only [↓reduceIte, go_sem, Nat.reduceLT, Nat.reduceEqDiff, Nat.reduceSub]
        refine hK _ _ ?_; clear hK hgd; clear K; try clear gd
        have hj2 : J pre w2 := hJ _ _ _ hj (hk2.mono (fun i _ h => by unfold span; omega))
        repeat (with_reducible first | refine W_seq ?_ | refine W_block ?_ | refine W_skip ?_ | refine W_ret ?_ | refine W_exit ?_ | refine thenQ_normal ?_ | refine thenQ_exit ?_ | refine thenQ_ret ?_ | refine blockQ_normal ?_ | refine blockQ_ret ?_ | refine blockQ_same ?_ | refine blockQ_other rfl ?_)
        refine W_reg (by rfl) ?_; intro gd K hgd hK
        try simp (disch := first | omega | assumption | rfl) only [↓reduceIte, go_sem, Nat.reduceLT, Nat.reduceEqDiff, Nat.reduceSub, hf0]
        refine Yld.mono (hY pre key w2 _ ⟨hkm, hnk, hnd, hsub⟩ hj2 (by omega) (hkr _ hk2) rfl) ?_
        rintro u z (⟨rfl, hj', hk', ho'⟩ | ⟨rfl, hjx⟩)
        · try simp (disch := first | omega | assumption | rfl) only [↓reduceIte, go_sem, Nat.reduceLT, Nat.reduceEqDiff, Nat.reduceSub]
          refine hK _ _ ?_; clear hK hgd; clear K; try clear gd
          repeat (with_reducible first | refine W_seq ?_ | refine W_block ?_ | refine W_skip ?_ | refine W_ret ?_ | refine W_exit ?_ | refine thenQ_normal ?_ | refine thenQ_exit ?_ | refine thenQ_ret ?_ | refine blockQ_normal ?_ | refine blockQ_ret ?_ | refine blockQ_same ?_ | refine blockQ_other rfl ?_)
          refine W_cond (by simp only [↓reduceIte, go_sem, Nat.reduceLT, Nat.reduceEqDiff, Nat.reduceSub]; rfl) ?_ ?_
          · intro h; simp at h
          · intro _
            repeat (with_reducible first | refine W_seq ?_ | refine W_block ?_ | refine W_skip ?_ | refine W_ret ?_ | refine W_exit ?_ | refine thenQ_normal ?_ | refine thenQ_exit ?_ | refine thenQ_ret ?_ | refine blockQ_normal ?_ | refine blockQ_ret ?_ | refine blockQ_same ?_ | refine blockQ_other rfl ?_)
            have hnd' : (pre ++ [key]).Nodup := by
              rw [List.nodup_append]
              exact ⟨hnd, by simp, fun a ha b hb => by simp at hb; subst hb; rintro rfl; exact hnk ha⟩
            have hsub' : ∀ j ∈ pre ++ [key], j ∈ l.map (·.1) := fun j hj => by
              rcases List.mem_append.1 hj with h | h
              · exact hsub j h
              · rw [List.mem_singleton.1 h]; exact hkm
            have hlt : (pre ++ [key]).length ≤ (l.map (·.1)).length := nodup_len hnd' hsub'
            refine ⟨k - 1, ?_, rfl, by simp only [↓reduceIte, go_sem, Nat.reduceLT, Nat.reduceEqDiff, Nat.reduceSub, h5], by simp only [↓reduceIte, go_sem, Nat.reduceLT, Nat.reduceEqDiff, Nat.reduceSub, hf0], pre ++ [key], ?_, hj', (hkr _ hk2).trans hk', ?_, hnd', hsub', ?_⟩
            · simp at hlt hlen; omega
            · refine hit2.block ?_ (ho' _ (by unfold span; omega))
              exact hk'.block _ hmn hmC
            · have := hk'.size; omega
            · simp at hlt hlen ⊢; omega
        · try simp (disch := first | omega | assumption | rfl) only [↓reduceIte, go_sem, Nat.reduceLT, Nat.reduceEqDiff, Nat.reduceSub]
          refine hK _ _ ?_; clear hK hgd; clear K; try clear gd
          repeat (with_reducible first | refine W_seq ?_ | refine W_block ?_ | refine W_skip ?_ | refine W_ret ?_ | refine W_exit ?_ | refine thenQ_normal ?_ | refine thenQ_exit ?_ | refine thenQ_ret ?_ | refine blockQ_normal ?_ | refine blockQ_ret ?_ | refine blockQ_same ?_ | refine blockQ_other rfl ?_)
          refine W_cond (by simp only [↓reduceIte, go_sem, Nat.reduceLT, Nat.reduceEqDiff, Nat.reduceSub]; rfl) ?_ ?_
          · intro _
            repeat (with_reducible first | refine W_seq ?_ | refine W_block ?_ | refine W_skip ?_ | refine W_ret ?_ | refine W_exit ?_ | refine thenQ_normal ?_ | refine thenQ_exit ?_ | refine thenQ_ret ?_ | refine blockQ_normal ?_ | refine blockQ_ret ?_ | refine blockQ_same ?_ | refine blockQ_other rfl ?_)
            exact ret_none (by simp) rfl (.inr ⟨pre, key, ⟨hkm, hnk, hnd, hsub⟩, hjx⟩)
          · intro h; simp at h
      · intro h; simp at h

theorem Keys_ok {w : World} {m : Nat} {l : List (Lab × Value)} (hm : MapAt w m l) (hn : (l.map (·.1)).Nodup) :
    Fn Try.prog 56 #[.map (some m)] w (fun v w' => Ext w w' ∧ ∃ cap, v = .func (.func 68) #[] cap ∧
      ∀ n0 C, w'.heap.size ≤ n0 → (∀ b, C b → w'.heap.size ≤ b) → IterG Try.prog 68 cap w' n0 C 1 (preK l) (fullK l) encK) := by
  refine enter Try.func56 Try.ntmps56 rfl rfl ?_
  repeat (with_reducible first | refine W_seq ?_ | refine W_block ?_ | refine W_skip ?_ | refine W_ret ?_ | refine W_exit ?_ | refine thenQ_normal ?_ | refine thenQ_exit ?_ | refine thenQ_ret ?_ | refine blockQ_normal ?_ | refine blockQ_ret ?_ | refine blockQ_same ?_ | refine blockQ_other rfl ?_)
  refine W_reg (by rfl) ?_; intro gd K hgd hK; simp (disch := first | omega | assumption | rfl) only [↓reduceIte, go_sem, Nat.reduceLT, Nat.reduceEqDiff, Nat.reduceSub]; refine hK _ _ ?_; clear hK hgd; clear K gd
  repeat (with_reducible first | refine W_seq ?_ | refine W_block ?_ | refine W_skip ?_ | refine W_ret ?_ | refine W_exit ?_ | refine thenQ_normal ?_ | refine thenQ_exit ?_ | refine thenQ_ret ?_ | refine blockQ_normal ?_ | refine blockQ_ret ?_ | refine blockQ_same ?_ | refine blockQ_other rfl ?_)
  refine W_reg (by rfl) ?_; intro gd K hgd hK; simp (disch := first | omega | assumption | rfl) only [↓reduceIte, go_sem, Nat.reduceLT, Nat.reduceEqDiff, Nat.reduceSub]; refine hK _ _ ?_; clear hK hgd; clear K gd
  repeat (with_reducible first | refine W_seq ?_ | refine W_block ?_ | refine W_skip ?_ | refine W_ret ?_ | refine W_exit ?_ | refine thenQ_normal ?_ | refine thenQ_exit ?_ | refine thenQ_ret ?_ | refine blockQ_normal ?_ | refine blockQ_ret ?_ | refine blockQ_same ?_ | refine blockQ_other rfl ?_)
  refine ret_one (by simp) rfl Try.ntmps56 (by simp only [↓reduceIte, go_sem, Nat.reduceLT, Nat.reduceEqDiff, Nat.reduceSub]; rfl) ?_
  have hmlt : m < w.heap.size := by obtain ⟨es, clk, h1, _⟩ := hm; exact (Array.getElem?_eq_some_iff.1 h1).1
  refine ⟨Ext.alloc _ _, _, rfl, fun n0 C hn0 hC => ?_⟩
  rw [new_size] at hn0 hC
  refine keys1_ok ?_ (hm.block (RowKit.Below.heap_alloc _ _ _ hmlt)) hn (by omega) (fun h => by have := hC _ h; omega) (by omega) (fun h => by have := hC _ h; omega)
  rw [cell_of (new_block _ _)]; rfl
end Go.Proofs.Ytciadbhnodgpgaa.T_int
