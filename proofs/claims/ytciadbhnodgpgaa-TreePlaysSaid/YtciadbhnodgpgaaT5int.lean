/-
  The contract of (*node).all, at elements of type int.
  Conditions: none.
-/
import Derived.Test.YtciadbhnodgpgaaT4int
import Derived.Test.YtciadbhnodgpgaaN1
set_option linter.unusedVariables false
set_option linter.unusedSimpArgs false
set_option linter.defProp false
namespace Go.Proofs.Ytciadbhnodgpgaa.T_int
open Go Go.Proofs.Ytciadbhnodgpgaa
set_option maxRecDepth 10000

theorem all_ok {W00 W : World} {n0 : Nat} {C : Nat → Prop} {tb B0 : Nat} {s : TS} {lp : Nat} {full : List Nm} {J : List Nm → (Nat → Prop) → World → Prop} {Jx : List Nm → World → Prop}
    (hT : TAt W00 tb s) (hs : TOk s) (hS : Small s) (hdeep : ∀ g ∈ s.names, g.length ≤ 100000000000) (hE : Ext W00 W) (hC : ∀ b, C b → W00.heap.size ≤ b ∧ b < W.heap.size) (hn0 : W00.heap.size ≤ n0) (hnW : n0 ≤ W.heap.size) (hB0 : B0 ≤ W.heap.size)
    (hJ : ∀ pre U A B, J pre U A → Ext A B → J pre U B)
    (hY : ∀ pre U x suf A args, full = pre ++ x :: suf → J pre U A → W.heap.size ≤ A.heap.size → KeepB n0 C W A → encN B0 x U A args → Yld Try.prog lp args A (fun v B =>
      (v = .bool true ∧ ∃ U', J (pre ++ [x]) U' B ∧ (∀ b, U' b → U b ∨ (A.heap.size ≤ b ∧ b < B.heap.size)) ∧ KeepR n0 W.heap.size (fun b => C b ∨ U b) A B) ∨ (v = .bool false ∧ Jx (pre ++ [x]) B))) :
    ∀ (fuel : Nat) (f : Nm) (A : World) (U : Nat → Prop) (pre suf : List Nm) (nv : Value), f ∈ s.names → (∀ g ∈ s.names, g.length < f.length + fuel) → full = pre ++ allN s.names fuel f ++ suf → J pre U A →
      (∀ b, U b → W.heap.size ≤ b ∧ b < A.heap.size) → W.heap.size ≤ A.heap.size → KeepB n0 C W A → RowZ W.heap.size U A nv (f.map vs) →
      Fn Try.prog 36 #[ptrOf (s.nb f), nv, .func (.yield lp) #[] #[]] A (fun v B =>
        (v = .bool true ∧ ∃ U', J (pre ++ allN s.names fuel f) U' B ∧ (∀ b, U' b → U b ∨ (A.heap.size ≤ b ∧ b < B.heap.size)) ∧ KeepR n0 W.heap.size (fun b => C b ∨ U b) A B) ∨ (v = .bool false ∧ ∃ p x q, full = p ++ x :: q ∧ Jx (p ++ [x]) B)) := by
  have fact : ∀ X, KeepB n0 C W X → TAt X tb s := fun X hX => hT.ext (KeepB.to_ext hE hX hn0 (fun b hb => (hC b hb).1))
  have hCW : ∀ b, C b → b < W.heap.size := fun b hb => (hC b hb).2
  intro fuel
  induction fuel with
  | zero =>
    intro f A U pre suf nv hf hlen
    have := hlen f hf
    omega
  | succ fuel ih =>
    intro f A U pre suf nv hf hlen hfull hj hU hWA hKB hrow
    have hhead : full = pre ++ f :: (((sortK (kidsOf s.names f)).map fun l => allN s.names fuel (l :: f)).flatten ++ suf) := by rw [hfull]; simp [allN]
    have hnvs : ∃ na nn nc, nv = .slice na nn nc := by obtain ⟨a, c, h, _⟩ := hrow.1; exact ⟨_, _, _, h⟩
    obtain ⟨na, nn, nc, rfl⟩ := hnvs
    refine enter Try.func36 Try.ntmps36 rfl rfl ?_
    repeat (with_reducible first | refine W_seq ?_ | refine W_block ?_ | refine W_skip ?_ | refine W_ret ?_ | refine W_exit ?_ | refine thenQ_normal ?_ | refine thenQ_exit ?_ | refine thenQ_ret ?_ | refine blockQ_normal ?_ | refine blockQ_ret ?_ | refine blockQ_same ?_ | refine blockQ_other rfl ?_)
    refine W_reg (by rfl) ?_; intro gd K hgd hK; simp (disch := first | omega | assumption | rfl) only [↓reduceIte, go_sem, Nat.reduceLT, Nat.reduceEqDiff, Nat.reduceSub]; refine hK _ _ ?_; clear hK hgd; clear K gd
    repeat (with_reducible first | refine W_seq ?_ | refine W_block ?_ | refine W_skip ?_ | refine W_ret ?_ | refine W_exit ?_ | refine thenQ_normal ?_ | refine thenQ_exit ?_ | refine thenQ_ret ?_ | refine blockQ_normal ?_ | refine blockQ_ret ?_ | refine blockQ_same ?_ | refine blockQ_other rfl ?_)
    refine W_reg (by rfl) ?_; intro gd K hgd hK
    try simp (disch := first | omega | assumption | rfl) only [↓reduceIte, go_sem, Nat.reduceLT, Nat.reduceEqDiff, Nat.reduceSub]
    refine Yld.mono (hY pre U f _ A _ hhead hj hWA hKB ⟨_, rfl, hrow.low hB0⟩) ?_
    rintro v B (⟨rfl, U1, hj1, hU1, hk1⟩ | ⟨rfl, hjx⟩)
    · try simp (disch := first | omega | assumption | rfl) only [↓reduceIte, go_sem, Nat.reduceLT, Nat.reduceEqDiff, Nat.reduceSub]
      refine hK _ _ ?_; clear hK hgd; clear K; try clear gd
      have hs1 := hk1.size
      have hU1' : ∀ b, U1 b → W.heap.size ≤ b ∧ b < B.heap.size := fun b hb => by
        rcases hU1 b hb with h | h
        · have := hU b h; omega
        · omega
      have hKB1 := hk1.toB hKB (by omega) (fun b hb => by have := (hU b hb).1; omega)
      have hrow1 := hrow.keep hk1 hCW hU1
      repeat (with_reducible first | refine W_seq ?_ | refine W_block ?_ | refine W_skip ?_ | refine W_ret ?_ | refine W_exit ?_ | refine thenQ_normal ?_ | refine thenQ_exit ?_ | refine thenQ_ret ?_ | refine blockQ_normal ?_ | refine blockQ_ret ?_ | refine blockQ_same ?_ | refine blockQ_other rfl ?_)
      refine W_cond (by simp only [↓reduceIte, go_sem, Nat.reduceLT, Nat.reduceEqDiff, Nat.reduceSub]; rfl) ?_ ?_
      · intro h; simp at h
      · intro _
        repeat (with_reducible first | refine W_seq ?_ | refine W_block ?_ | refine W_skip ?_ | refine W_ret ?_ | refine W_exit ?_ | refine thenQ_normal ?_ | refine thenQ_exit ?_ | refine thenQ_ret ?_ | refine blockQ_normal ?_ | refine blockQ_ret ?_ | refine blockQ_same ?_ | refine blockQ_other rfl ?_)
        refine W_reg (by rfl) ?_; intro gd K hgd hK
        try simp (disch := first | omega | assumption | rfl) only [↓reduceIte, go_sem, Nat.reduceLT, Nat.reduceEqDiff, Nat.reduceSub]
        refine Fn.mono (labels_ok (fact B hKB1) hs hS hf) ?_
        rintro lv B2 ⟨hlv, hE2⟩
        have hlz := RowZ.of_base (n1 := W.heap.size) hlv (by omega) (fun b hb => (hU1' b hb).2)
        have hlen2 : (sortK (kidsOf s.names f)).length ≤ 1000000000 := by
          rw [(sortK_perm _).length_eq]
          exact Nat.le_trans (List.length_filterMap_le _ _) hS.many
        generalize hks : sortK (kidsOf s.names f) = ks at *
        obtain ⟨la, lc, rfl, hlc, hll⟩ := id hlz.1
        rw [List.length_map] at *
        try simp (disch := first | omega | assumption | rfl) only [↓reduceIte, go_sem, Nat.reduceLT, Nat.reduceEqDiff, Nat.reduceSub]
        refine hK _ _ ?_; clear hK hgd; clear K; try clear gd
        repeat (with_reducible first | refine W_seq ?_ | refine W_block ?_ | refine W_skip ?_ | refine W_ret ?_ | refine W_exit ?_ | refine thenQ_normal ?_ | refine thenQ_exit ?_ | refine thenQ_ret ?_ | refine blockQ_normal ?_ | refine blockQ_ret ?_ | refine blockQ_same ?_ | refine blockQ_other rfl ?_)
        refine W_loop (fun m σ ds v => ds = [] ∧ ∃ i U', i + m = ks.length ∧ σ 16 = vi i ∧ σ 15 = vi ks.length ∧ σ 14 = .slice la ks.length lc ∧ σ 0 = ptrOf (s.nb f) ∧ σ 1 = .slice na nn nc ∧ σ 2 = .func (.yield lp) #[] #[] ∧
          J (pre ++ f :: ((ks.take i).map fun l => allN s.names fuel (l :: f)).flatten) U' v ∧ (∀ b, U' b → U b ∨ (A.heap.size ≤ b ∧ b < v.heap.size)) ∧ KeepR n0 W.heap.size (fun b => C b ∨ U b) A v ∧
          RowZ W.heap.size U' v (.slice na nn nc) (f.map vs) ∧ RowZ W.heap.size U' v (.slice la ks.length lc) (ks.map vs)) ks.length ?_ ?_
        · refine ⟨rfl, 0, U1, by omega, by simp only [↓reduceIte, go_sem, Nat.reduceLT, Nat.reduceEqDiff, Nat.reduceSub]; rfl, by simp only [↓reduceIte, go_sem, Nat.reduceLT, Nat.reduceEqDiff, Nat.reduceSub], by simp only [↓reduceIte, go_sem, Nat.reduceLT, Nat.reduceEqDiff, Nat.reduceSub], by simp only [↓reduceIte, go_sem, Nat.reduceLT, Nat.reduceEqDiff, Nat.reduceSub], by simp only [↓reduceIte, go_sem, Nat.reduceLT, Nat.reduceEqDiff, Nat.reduceSub], by simp only [↓reduceIte, go_sem, Nat.reduceLT, Nat.reduceEqDiff, Nat.reduceSub], ?_, ?_, ?_, hrow1.ext hE2, hlz⟩
          · simpa using hJ _ _ _ _ hj1 hE2
          · intro b hb
            have := hE2.size
            rcases hU1 b hb with h | h
            · exact .inl h
            · exact .inr ⟨h.1, by omega⟩
          · exact hk1.next hU1 (KeepR.of_ext hE2)
        · rintro m σ ds v ⟨rfl, i, U', him, h16, h15, h14, h0, h1, h2, hji, hUi, hki, hni, hli⟩
          have hKBv := hki.toB hKB (by omega) (fun b hb => by have := (hU b hb).1; omega)
          have hsv := hki.size
          have hUv : ∀ b, U' b → W.heap.size ≤ b ∧ b < v.heap.size := fun b hb => by
            rcases hUi b hb with h | h
            · have := hU b h; omega
            · omega
          repeat (with_reducible first | refine W_seq ?_ | refine W_block ?_ | refine W_skip ?_ | refine W_ret ?_ | refine W_exit ?_ | refine thenQ_normal ?_ | refine thenQ_exit ?_ | refine thenQ_ret ?_ | refine blockQ_normal ?_ | refine blockQ_ret ?_ | refine blockQ_same ?_ | refine blockQ_other rfl ?_)
          refine W_reg (by rfl) ?_; intro gd K hgd hK; simp (disch := first | omega | assumption | rfl) only [↓reduceIte, go_sem, Nat.reduceLT, Nat.reduceEqDiff, Nat.reduceSub, h16, h15]; refine hK _ _ ?_; clear hK hgd; clear K gd
          repeat (with_reducible first | refine W_seq ?_ | refine W_block ?_ | refine W_skip ?_ | refine W_ret ?_ | refine W_exit ?_ | refine thenQ_normal ?_ | refine thenQ_exit ?_ | refine thenQ_ret ?_ | refine blockQ_normal ?_ | refine blockQ_ret ?_ | refine blockQ_same ?_ | refine blockQ_other rfl ?_)
          refine W_cond (by simp only [↓reduceIte, go_sem, Nat.reduceLT, Nat.reduceEqDiff, Nat.reduceSub]; rfl) ?_ ?_
          · intro hlt
            simp only [decide_eq_true_eq] at hlt
            have hi : i < ks.length := by omega
            obtain ⟨la', lc', hle, _, hll'⟩ := id hli.1
            simp only [List.length_map] at hle hll'
            cases hle
            have hsa : la.isSome = true := some_of_cellO (hll' i hi)
            have hkid : ks[i] :: f ∈ s.names := mem_kidsOf.1 ((sortK_perm _).mem_iff.1 (by rw [hks]; exact List.getElem_mem hi))
            repeat (with_reducible first | refine W_seq ?_ | refine W_block ?_ | refine W_skip ?_ | refine W_ret ?_ | refine W_exit ?_ | refine thenQ_normal ?_ | refine thenQ_exit ?_ | refine thenQ_ret ?_ | refine blockQ_normal ?_ | refine blockQ_ret ?_ | refine blockQ_same ?_ | refine blockQ_other rfl ?_)
            refine W_reg (by rfl) ?_; intro gd K hgd hK; simp (disch := first | omega | assumption | rfl) only [↓reduceIte, go_sem, Nat.reduceLT, Nat.reduceEqDiff, Nat.reduceSub, h16, h14, hll', List.getElem_map]; refine hK _ _ ?_; clear hK hgd; clear K gd
            repeat (with_reducible first | refine W_seq ?_ | refine W_block ?_ | refine W_skip ?_ | refine W_ret ?_ | refine W_exit ?_ | refine thenQ_normal ?_ | refine thenQ_exit ?_ | refine thenQ_ret ?_ | refine blockQ_normal ?_ | refine blockQ_ret ?_ | refine blockQ_same ?_ | refine blockQ_other rfl ?_)
            refine W_drw (fun i => i == 10 || i == 11) [(0, true), (1, true), (2, true), (3, true), (4, true), (5, true), (6, true), (7, true), (9, true), (8, false), (10, false), (11, false)] NoS mixed (by kernel_rfl) ?_; intro gd K x hgd hx hxe hK; clear hxe
            have hTx := (fact v hKBv).ext hx
            have hmb : cellO x (some ⟨s.nb f, 0, Option.none⟩) = some (.map (some (s.mb f))) := by
              show x.cell? _ = _
              rw [cell_of (hTx.node _ hf)]; rfl
            have hlk := (hTx.map _ hf).lk (P := Try.prog) (t := 58) (kt := 9) (et := 52) (z := .pointer Option.none) rfl rfl rfl ks[i]
            rw [kid_lookup, if_pos hkid, Option.getD_some] at hlk
            unfold ptrOf at h0
            simp (disch := first | omega | assumption | rfl) only [↓reduceIte, go_sem, Nat.reduceLT, Nat.reduceEqDiff, Nat.reduceSub, h0, h1, h2, hmb, hlk]
            refine ⟨fun _ _ h => h, ?_⟩
            refine Fn.mono (Child_ok x _ _ f (hni.1.ext hx) (by have := hdeep f hf; omega)) ?_
            rintro cv y ⟨hcv, hy⟩
            refine ⟨.inr hy, ?_⟩
            simp (disch := first | omega | assumption | rfl) only [↓reduceIte, go_sem, Nat.reduceLT, Nat.reduceEqDiff, Nat.reduceSub, h0, h1, h2]
            have hxs := hx.size
            have hys := hy.size
            have hEy := hx.trans hy
            have hki2 := hki.next hUi (KeepR.of_ext hEy)
            have hsplit : ((ks.take (i + 1)).map fun l => allN s.names fuel (l :: f)).flatten = ((ks.take i).map fun l => allN s.names fuel (l :: f)).flatten ++ allN s.names fuel (ks[i] :: f) := by
              rw [take_succ' hi, List.map_append, List.flatten_append]
              simp only [List.map_cons, List.map_nil, List.flatten_cons, List.flatten_nil, List.append_nil]
            have hall : (ks.map fun l => allN s.names fuel (l :: f)).flatten = ((ks.take i).map fun l => allN s.names fuel (l :: f)).flatten ++ allN s.names fuel (ks[i] :: f) ++ ((ks.drop (i + 1)).map fun l => allN s.names fuel (l :: f)).flatten := by
              conv => lhs; rw [split_at hi]
              rw [List.map_append, List.map_cons, List.flatten_append, List.flatten_cons, List.append_assoc]
            have hfull2 : full = (pre ++ f :: ((ks.take i).map fun l => allN s.names fuel (l :: f)).flatten) ++ allN s.names fuel (ks[i] :: f) ++ (((ks.drop (i + 1)).map fun l => allN s.names fuel (l :: f)).flatten ++ suf) := by
              rw [hhead, hall]; simp
            refine Fn.mono (ih (ks[i] :: f) y U' _ _ cv hkid (fun g hg => by have := hlen g hg; simp; omega) hfull2 (hJ _ _ _ _ hji hEy) (fun b hb => by have := hUv b hb; omega) (by omega) (hki2.toB hKB (by omega) (fun b hb => by have := (hU b hb).1; omega))
              (RowZ.of_base hcv (by omega) (fun b hb => by have := (hUv b hb).2; omega))) ?_
            rintro r D hres
            refine ⟨.inl rfl, ?_⟩
            rcases hres with ⟨rfl, U2, hj2, hU2, hk2⟩ | ⟨rfl, hbad⟩
            · simp (disch := first | omega | assumption | rfl) only [↓reduceIte, go_sem, Nat.reduceLT, Nat.reduceEqDiff, Nat.reduceSub]
              refine ⟨.inl rfl, ?_⟩
              refine hK _ _ ?_; clear hK hgd; clear K; try clear gd
              have hDs := hk2.size
              have hUD : ∀ b, U2 b → U' b ∨ (v.heap.size ≤ b ∧ b < D.heap.size) := fun b hb => by
                rcases hU2 b hb with h | h
                · exact .inl h
                · exact .inr (by omega)
              have hU2' : ∀ b, U2 b → U b ∨ (A.heap.size ≤ b ∧ b < D.heap.size) := fun b hb => by
                rcases hUD b hb with h | h
                · rcases hUi b h with h' | h'
                  · exact .inl h'
                  · exact .inr (by omega)
                · exact .inr (by omega)
              have hkv : KeepR n0 W.heap.size (fun b => C b ∨ U' b) v D := (KeepR.of_ext hEy).next (U' := U') (fun b hb => .inl hb) hk2
              repeat (with_reducible first | refine W_seq ?_ | refine W_block ?_ | refine W_skip ?_ | refine W_ret ?_ | refine W_exit ?_ | refine thenQ_normal ?_ | refine thenQ_exit ?_ | refine thenQ_ret ?_ | refine blockQ_normal ?_ | refine blockQ_ret ?_ | refine blockQ_same ?_ | refine blockQ_other rfl ?_)
              refine W_cond (by simp only [↓reduceIte, go_sem, Nat.reduceLT, Nat.reduceEqDiff, Nat.reduceSub]; rfl) ?_ ?_
              · intro h; simp at h
              · intro _
                repeat (with_reducible first | refine W_seq ?_ | refine W_block ?_ | refine W_skip ?_ | refine W_ret ?_ | refine W_exit ?_ | refine thenQ_normal ?_ | refine thenQ_exit ?_ | refine thenQ_ret ?_ | refine blockQ_normal ?_ | refine blockQ_ret ?_ | refine blockQ_same ?_ | refine blockQ_other rfl ?_)
                refine W_reg (by rfl) ?_; intro gd K hgd hK; simp (disch := first | omega | assumption | rfl) only [↓reduceIte, go_sem, Nat.reduceLT, Nat.reduceEqDiff, Nat.reduceSub, h16]; refine hK _ _ ?_; clear hK hgd; clear K gd
                repeat (with_reducible first | refine W_seq ?_ | refine W_block ?_ | refine W_skip ?_ | refine W_ret ?_ | refine W_exit ?_ | refine thenQ_normal ?_ | refine thenQ_exit ?_ | refine thenQ_ret ?_ | refine blockQ_normal ?_ | refine blockQ_ret ?_ | refine blockQ_same ?_ | refine blockQ_other rfl ?_)
                refine ⟨m - 1, by omega, rfl, i + 1, U2, by omega, by simp only [↓reduceIte, go_sem, Nat.reduceLT, Nat.reduceEqDiff, Nat.reduceSub]; rfl, by simp only [↓reduceIte, go_sem, Nat.reduceLT, Nat.reduceEqDiff, Nat.reduceSub, h15], by simp only [↓reduceIte, go_sem, Nat.reduceLT, Nat.reduceEqDiff, Nat.reduceSub, h14], by simp only [↓reduceIte, go_sem, Nat.reduceLT, Nat.reduceEqDiff, Nat.reduceSub, h0], by simp only [↓reduceIte, go_sem, Nat.reduceLT, Nat.reduceEqDiff, Nat.reduceSub, h1], by simp only [↓reduceIte, go_sem, Nat.reduceLT, Nat.reduceEqDiff, Nat.reduceSub, h2], ?_, hU2', hki.next hUi hkv, hni.keep hkv hCW hUD, hli.keep hkv hCW hUD⟩
                rw [hsplit, ← List.cons_append, ← List.append_assoc]; exact hj2
            · simp (disch := first | omega | assumption | rfl) only [↓reduceIte, go_sem, Nat.reduceLT, Nat.reduceEqDiff, Nat.reduceSub]
              refine ⟨.inl rfl, ?_⟩
              refine hK _ _ ?_; clear hK hgd; clear K; try clear gd
              repeat (with_reducible first | refine W_seq ?_ | refine W_block ?_ | refine W_skip ?_ | refine W_ret ?_ | refine W_exit ?_ | refine thenQ_normal ?_ | refine thenQ_exit ?_ | refine thenQ_ret ?_ | refine blockQ_normal ?_ | refine blockQ_ret ?_ | refine blockQ_same ?_ | refine blockQ_other rfl ?_)
              refine W_cond (by simp only [↓reduceIte, go_sem, Nat.reduceLT, Nat.reduceEqDiff, Nat.reduceSub]; rfl) ?_ ?_
              · intro _
                repeat (with_reducible first | refine W_seq ?_ | refine W_block ?_ | refine W_skip ?_ | refine W_ret ?_ | refine W_exit ?_ | refine thenQ_normal ?_ | refine thenQ_exit ?_ | refine thenQ_ret ?_ | refine blockQ_normal ?_ | refine blockQ_ret ?_ | refine blockQ_same ?_ | refine blockQ_other rfl ?_)
                refine W_reg (by rfl) ?_; intro gd K hgd hK; simp (disch := first | omega | assumption | rfl) only [↓reduceIte, go_sem, Nat.reduceLT, Nat.reduceEqDiff, Nat.reduceSub]; refine hK _ _ ?_; clear hK hgd; clear K gd
                repeat (with_reducible first | refine W_seq ?_ | refine W_block ?_ | refine W_skip ?_ | refine W_ret ?_ | refine W_exit ?_ | refine thenQ_normal ?_ | refine thenQ_exit ?_ | refine thenQ_ret ?_ | refine blockQ_normal ?_ | refine blockQ_ret ?_ | refine blockQ_same ?_ | refine blockQ_other rfl ?_)
                refine ret_one (by simp) rfl Try.ntmps36 (by simp only [↓reduceIte, go_sem, Nat.reduceLT, Nat.reduceEqDiff, Nat.reduceSub]; rfl) ?_
                exact .inr ⟨rfl, hbad⟩
              · intro h; simp at h
          · intro hge
            simp only [decide_eq_false_iff_not] at hge
            repeat (with_reducible first | refine W_seq ?_ | refine W_block ?_ | refine W_skip ?_ | refine W_ret ?_ | refine W_exit ?_ | refine thenQ_normal ?_ | refine thenQ_exit ?_ | refine thenQ_ret ?_ | refine blockQ_normal ?_ | refine blockQ_ret ?_ | refine blockQ_same ?_ | refine blockQ_other rfl ?_)
            refine W_reg (by rfl) ?_; intro gd K hgd hK; simp (disch := first | omega | assumption | rfl) only [↓reduceIte, go_sem, Nat.reduceLT, Nat.reduceEqDiff, Nat.reduceSub]; refine hK _ _ ?_; clear hK hgd; clear K gd
            repeat (with_reducible first | refine W_seq ?_ | refine W_block ?_ | refine W_skip ?_ | refine W_ret ?_ | refine W_exit ?_ | refine thenQ_normal ?_ | refine thenQ_exit ?_ | refine thenQ_ret ?_ | refine blockQ_normal ?_ | refine blockQ_ret ?_ | refine blockQ_same ?_ | refine blockQ_other rfl ?_)
            refine ret_one (by simp) rfl Try.ntmps36 (by simp only [↓reduceIte, go_sem, Nat.reduceLT, Nat.reduceEqDiff, Nat.reduceSub]; rfl) ?_
            rw [List.take_of_length_le (by omega)] at hji
            refine .inl ⟨rfl, U', ?_, hUi, hki⟩
            rw [allN, hks]; exact hji
    · try simp (disch := first | omega | assumption | rfl) only [↓reduceIte, go_sem, Nat.reduceLT, Nat.reduceEqDiff, Nat.reduceSub]
      refine hK _ _ ?_; clear hK hgd; clear K; try clear gd
      repeat (with_reducible first | refine W_seq ?_ | refine W_block ?_ | refine W_skip ?_ | refine W_ret ?_ | refine W_exit ?_ | refine thenQ_normal ?_ | refine thenQ_exit ?_ | refine thenQ_ret ?_ | refine blockQ_normal ?_ | refine blockQ_ret ?_ | refine blockQ_same ?_ | refine blockQ_other rfl ?_)
      refine W_cond (by simp only [↓reduceIte, go_sem, Nat.reduceLT, Nat.reduceEqDiff, Nat.reduceSub]; rfl) ?_ ?_
      · intro _
        repeat (with_reducible first | refine W_seq ?_ | refine W_block ?_ | refine W_skip ?_ | refine W_ret ?_ | refine W_exit ?_ | refine thenQ_normal ?_ | refine thenQ_exit ?_ | refine thenQ_ret ?_ | refine blockQ_normal ?_ | refine blockQ_ret ?_ | refine blockQ_same ?_ | refine blockQ_other rfl ?_)
        refine W_reg (by rfl) ?_; intro gd K hgd hK; simp (disch := first | omega | assumption | rfl) only [↓reduceIte, go_sem, Nat.reduceLT, Nat.reduceEqDiff, Nat.reduceSub]; refine hK _ _ ?_; clear hK hgd; clear K gd
        repeat (with_reducible first | refine W_seq ?_ | refine W_block ?_ | refine W_skip ?_ | refine W_ret ?_ | refine W_exit ?_ | refine thenQ_normal ?_ | refine thenQ_exit ?_ | refine thenQ_ret ?_ | refine blockQ_normal ?_ | refine blockQ_ret ?_ | refine blockQ_same ?_ | refine blockQ_other rfl ?_)
        refine ret_one (by simp) rfl Try.ntmps36 (by simp only [↓reduceIte, go_sem, Nat.reduceLT, Nat.reduceEqDiff, Nat.reduceSub]; rfl) ?_
        exact .inr ⟨rfl, _, _, _, hhead, hjx⟩
      · intro h; simp at h
end Go.Proofs.Ytciadbhnodgpgaa.T_int
