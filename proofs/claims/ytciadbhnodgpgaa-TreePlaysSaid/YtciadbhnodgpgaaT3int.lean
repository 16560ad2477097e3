/-
  The contract of (*Tree).Put, at elements of type int.
  Conditions: none.
-/
import Derived.Test.YtciadbhnodgpgaaT2int
set_option linter.unusedVariables false
set_option linter.unusedSimpArgs false
set_option linter.defProp false
namespace Go.Proofs.Ytciadbhnodgpgaa.T_int
open Go Go.Proofs.Ytciadbhnodgpgaa
set_option maxRecDepth 10000

structure Puts (s : TS) (f : Nm) (v : Value) (s' : TS) : Prop where
  names : ∀ g, g ∈ s'.names ↔ g ∈ s.names ∨ g <:+ f
  val : ∀ g, s'.val g = if g = f then v else s.val g
  has : ∀ g, s'.has g = if g = f then true else s.has g

structure Grown (s : TS) (f : Nm) (k : Nat) (s' : TS) : Prop where
  names : ∀ g, g ∈ s'.names ↔ g ∈ s.names ∨ ∃ j, j ≤ k ∧ g = sfx f j
  val : ∀ g, s'.val g = s.val g
  has : ∀ g, s'.has g = s.has g

theorem wrap_succ (a : Int) : IntKind.i64.wrap (IntKind.i64.wrap a + 1) = IntKind.i64.wrap (a + 1) := by
  simp only [IntKind.wrap_i64]; omega

theorem sfx_suffix (f : Nm) (k : Nat) : sfx f k <:+ f := List.drop_suffix _ _
theorem suffix_sfx {f g : Nm} (h : g <:+ f) : ∃ j, j ≤ f.length ∧ g = sfx f j := by
  obtain ⟨p, rfl⟩ := h
  refine ⟨g.length, by simp, ?_⟩
  simp [sfx]

theorem Put_ok {w : World} {tb : Nat} {s : TS} {n : Nm} {nv v : Value} (hT : TAt w tb s) (hs : TOk s) (hr : ∀ A, Keep (tblk tb s) w A → Row A nv (n.map vs)) (hn : LB n) (hlen : n.length ≤ 9000000000000000000)
    (hv : one v = true) :
    Fn Try.prog 10 #[ptrOf tb, nv, v] w (fun _ w' => ∃ s', TOk s' ∧ TAt w' tb s' ∧ Puts s (foldN n) v s' ∧ Keep (tblk tb s) w w' ∧ (∀ b, tblk tb s' b → tblk tb s b ∨ w.heap.size ≤ b)) := by
  have hr0 := hr w (Keep.refl _ _)
  obtain ⟨a, ca, rfl, hca, hla⟩ := id hr0
  have hrA : ∀ {A}, Keep (tblk tb s) w A → ∀ j (h : j < (n.map vs).length), cellO A (adr a j) = some (n.map vs)[j] := fun {A} hA => by
    obtain ⟨a', c', e, _, h⟩ := hr A hA
    simp only [Value.slice.injEq, true_and] at e
    obtain ⟨rfl, rfl⟩ := e
    exact h
  simp only [List.length_map] at *
  have hdl := dep_le s.names (foldN n)
  have hfl := foldN_len n
  rw [foldN_len] at hdl
  refine enter Try.func10 Try.ntmps10 rfl rfl ?_
  repeat (with_reducible first | refine W_seq ?_ | refine W_block ?_ | refine W_skip ?_ | refine W_ret ?_ | refine W_exit ?_ | refine thenQ_normal ?_ | refine thenQ_exit ?_ | refine thenQ_ret ?_ | refine blockQ_normal ?_ | refine blockQ_ret ?_ | refine blockQ_same ?_ | refine blockQ_other rfl ?_)
  refine W_reg (by rfl) ?_; intro gd K hgd hK
  try simp (disch := first | omega | assumption | rfl) only [↓reduceIte, go_sem, Nat.reduceLT, Nat.reduceEqDiff, Nat.reduceSub]
  refine Fn.mono (deepest_ok hT hs hr0 hn (by omega)) ?_
  rintro _ w1 ⟨rfl, hE1⟩
  try simp (disch := first | omega | assumption | rfl) only [↓reduceIte, go_sem, Nat.reduceLT, Nat.reduceEqDiff, Nat.reduceSub]
  refine hK _ _ ?_; clear hK hgd; clear K; try clear gd
  have hdin := dep_in hs (foldN n)
  have hdout := fun j => @sfx_out _ _ hs (foldN n) j
  have hdnb : ∀ j, j ≤ dep s.names (foldN n) → sfx (foldN n) j ∈ s.names := fun j hj => sfx_in hs hj
  generalize hd : dep s.names (foldN n) = d at *
  repeat (with_reducible first | refine W_seq ?_ | refine W_block ?_ | refine W_skip ?_ | refine W_ret ?_ | refine W_exit ?_ | refine thenQ_normal ?_ | refine thenQ_exit ?_ | refine thenQ_ret ?_ | refine blockQ_normal ?_ | refine blockQ_ret ?_ | refine blockQ_same ?_ | refine blockQ_other rfl ?_)
  refine W_loop (fun m σ ds A => ds = [] ∧ ∃ k s', k + m = n.length ∧ σ 6 = vi k ∧ σ 7 = ptrOf (s'.nb (sfx (foldN n) k)) ∧ σ 0 = ptrOf tb ∧ σ 1 = .slice a n.length ca ∧ σ 2 = v ∧
    TOk s' ∧ TAt A tb s' ∧ Grown s (foldN n) k s' ∧ Keep (tblk tb s) w A ∧ (∀ b, tblk tb s' b → tblk tb s b ∨ w.heap.size ≤ b) ∧ sfx (foldN n) k ∈ s'.names ∧ (∀ j, k < j → j ≤ n.length → sfx (foldN n) j ∉ s'.names)) (n.length - d) ?_ ?_
  · refine ⟨rfl, d, s, by omega, by simp only [↓reduceIte, go_sem, Nat.reduceLT, Nat.reduceEqDiff, Nat.reduceSub], by simp only [↓reduceIte, go_sem, Nat.reduceLT, Nat.reduceEqDiff, Nat.reduceSub], by simp only [↓reduceIte, go_sem, Nat.reduceLT, Nat.reduceEqDiff, Nat.reduceSub], by simp only [↓reduceIte, go_sem, Nat.reduceLT, Nat.reduceEqDiff, Nat.reduceSub], by simp only [↓reduceIte, go_sem, Nat.reduceLT, Nat.reduceEqDiff, Nat.reduceSub], hs, hT.ext hE1, ⟨fun g => ⟨.inl, ?_⟩, fun _ => rfl, fun _ => rfl⟩, hE1.keep, fun b hb => .inl hb, hdin, fun j h1 h2 => hdout j h1 (by omega)⟩
    rintro (h | ⟨j, hj, rfl⟩)
    · exact h
    · exact hdnb j hj
  · rintro m σ ds A ⟨rfl, k, s', hkm, h6, h7, h0, h1, h2, hs', hTA, hG, hKA, hblk, hin, hout⟩
    repeat (with_reducible first | refine W_seq ?_ | refine W_block ?_ | refine W_skip ?_ | refine W_ret ?_ | refine W_exit ?_ | refine thenQ_normal ?_ | refine thenQ_exit ?_ | refine thenQ_ret ?_ | refine blockQ_normal ?_ | refine blockQ_ret ?_ | refine blockQ_same ?_ | refine blockQ_other rfl ?_)
    refine W_reg (by rfl) ?_; intro gd K hgd hK; simp (disch := first | omega | assumption | rfl) only [↓reduceIte, go_sem, Nat.reduceLT, Nat.reduceEqDiff, Nat.reduceSub, h6, h1]; refine hK _ _ ?_; clear hK hgd; clear K gd
    repeat (with_reducible first | refine W_seq ?_ | refine W_block ?_ | refine W_skip ?_ | refine W_ret ?_ | refine W_exit ?_ | refine thenQ_normal ?_ | refine thenQ_exit ?_ | refine thenQ_ret ?_ | refine blockQ_normal ?_ | refine blockQ_ret ?_ | refine blockQ_same ?_ | refine blockQ_other rfl ?_)
    refine W_cond (by simp only [↓reduceIte, go_sem, Nat.reduceLT, Nat.reduceEqDiff, Nat.reduceSub]; rfl) ?_ ?_
    · intro hlt
      simp only [decide_eq_true_eq] at hlt
      repeat (with_reducible first | refine W_seq ?_ | refine W_block ?_ | refine W_skip ?_ | refine W_ret ?_ | refine W_exit ?_ | refine thenQ_normal ?_ | refine thenQ_exit ?_ | refine thenQ_ret ?_ | refine blockQ_normal ?_ | refine blockQ_ret ?_ | refine blockQ_same ?_ | refine blockQ_other rfl ?_)
      refine W_reg (by rfl) ?_; intro gd K hgd hK
      try simp (disch := first | omega | assumption | rfl) only [↓reduceIte, go_sem, Nat.reduceLT, Nat.reduceEqDiff, Nat.reduceSub]
      refine Fn.mono (fresh_ok A) ?_
      rintro _ A1 ⟨rfl, rfl⟩
      try simp (disch := first | omega | assumption | rfl) only [↓reduceIte, go_sem, Nat.reduceLT, Nat.reduceEqDiff, Nat.reduceSub]
      refine hK _ _ ?_; clear hK hgd; clear K; try clear gd
      have hEA := (Ext.alloc A (.map #[] 0)).trans (Ext.alloc _ (.cells #[.map (some A.heap.size), (.int .i64 0), .bool false] 60))
      have hnm : MapAt ((A.alloc (.map #[] 0)).alloc (.cells #[.map (some A.heap.size), (.int .i64 0), .bool false] 60)) A.heap.size [] := (new_map A).block (RowKit.Below.heap_alloc _ _ _ (by simp))
      have hnn := new_block (A.alloc (.map #[] 0)) (.cells #[.map (some A.heap.size), (.int .i64 0), .bool false] 60)
      rw [new_size] at hnn
      revert hEA hnm hnn
      generalize (A.alloc (.map #[] 0)).alloc (.cells #[.map (some A.heap.size), (.int .i64 0), .bool false] 60) = A1
      intro hEA hnm hnn
      repeat (with_reducible first | refine W_seq ?_ | refine W_block ?_ | refine W_skip ?_ | refine W_ret ?_ | refine W_exit ?_ | refine thenQ_normal ?_ | refine thenQ_exit ?_ | refine thenQ_ret ?_ | refine blockQ_normal ?_ | refine blockQ_ret ?_ | refine blockQ_same ?_ | refine blockQ_other rfl ?_)
      refine W_drw (fun i => i == 14) [(0, true), (1, true), (2, true), (3, true), (4, true), (5, true), (6, true), (7, true), (8, true), (9, true), (10, true), (11, true), (13, true), (12, false), (14, false)] NoS mixed (by kernel_rfl) ?_; intro gd K x hgd hx hxe hK; clear hxe
      have hEx : Ext A x := hEA.trans hx
      have hTx := hTA.ext hEx
      have hKx : Keep (tblk tb s) w x := hKA.trans hEx.keep
      have hmb : cellO x (some ⟨s'.nb (sfx (foldN n) k), 0, Option.none⟩) = some (.map (some (s'.mb (sfx (foldN n) k)))) := by
        show x.cell? _ = _
        rw [cell_of (hTx.node _ hin)]; rfl
      have hla' := hrA hKx
      have hsa : a.isSome = true := some_of_cellO (hla 0 (by omega))
      have hix : ((n.length : Int) - 1 - k).toNat = n.length - 1 - k := by omega
      simp (disch := first | omega | assumption | rfl) only [↓reduceIte, go_sem, Nat.reduceLT, Nat.reduceEqDiff, Nat.reduceSub, h0, h1, h2, h6, h7, ptrOf, hmb, hix, hla', List.getElem_map]
      refine Fn.mono (LFold_ok _ _ (LB.get hn _)) ?_
      rintro _ y ⟨rfl, hy⟩
      refine ⟨.inr hy, ?_⟩
      have hTy := hTx.ext hy
      have hlab : foldL n[n.length - 1 - k] :: sfx (foldN n) k = sfx (foldN n) (k + 1) := by
        rw [sfx_succ (by omega)]; simp [foldN]
      have hnin : foldL n[n.length - 1 - k] :: sfx (foldN n) k ∉ s'.names := by rw [hlab]; exact hout _ (by omega) (by omega)
      simp (disch := first | omega | assumption | rfl) only [↓reduceIte, go_sem, Nat.reduceLT, Nat.reduceEqDiff, Nat.reduceSub]
      refine op_mapUpdate (r := s'.mb (sfx (foldN n) k)) (l := kidCells s' (sfx (foldN n) k)) (key := foldL n[n.length - 1 - k]) (v := ptrOf (A.heap.size + 1)) rfl rfl (by simp only [↓reduceIte, go_sem, Nat.reduceLT, Nat.reduceEqDiff, Nat.reduceSub]) (by simp only [↓reduceIte, go_sem, Nat.reduceLT, Nat.reduceEqDiff, Nat.reduceSub]) (by simp only [↓reduceIte, go_sem, Nat.reduceLT, Nat.reduceEqDiff, Nat.reduceSub]) (hTy.map _ hin) (by rw [kid_lookup, if_neg hnin]) ?_
      intro A2 hm2 hk2 hsz2
      refine ⟨.inl rfl, ?_⟩
      simp (disch := first | omega | assumption | rfl) only [↓reduceIte, go_sem, Nat.reduceLT, Nat.reduceEqDiff, Nat.reduceSub]
      refine hK _ _ ?_; clear hK hgd; clear K; try clear gd
      have hEy := hEx.trans hy
      have htbm : tb ≠ s'.mb (sfx (foldN n) k) := fun e => by
        obtain ⟨es, clk, h2, _⟩ := hTA.map _ hin
        rw [← e, hTA.root] at h2; cases h2
      have hroot2 : A2.heap[tb]? = some (.cells #[ptrOf (s'.nb []), .int .i64 (IntKind.i64.wrap s'.names.length)] 55 (0, 0)) :=
        (hk2.block _ (by have := hTy.lt (.inl rfl); omega) htbm).trans hTy.root
      have hcn : cellO A2 (some ⟨tb, 1, Option.none⟩) = some (.int .i64 (IntKind.i64.wrap s'.names.length)) := by
        show A2.cell? _ = _
        rw [cell_of hroot2]; rfl
      repeat (with_reducible first | refine W_seq ?_ | refine W_block ?_ | refine W_skip ?_ | refine W_ret ?_ | refine W_exit ?_ | refine thenQ_normal ?_ | refine thenQ_exit ?_ | refine thenQ_ret ?_ | refine blockQ_normal ?_ | refine blockQ_ret ?_ | refine blockQ_same ?_ | refine blockQ_other rfl ?_)
      refine W_reg (by rfl) ?_; intro gd K hgd hK; simp (disch := first | omega | assumption | rfl) only [↓reduceIte, go_sem, Nat.reduceLT, Nat.reduceEqDiff, Nat.reduceSub]; refine hK _ _ ?_; clear hK hgd; clear K gd
      repeat (with_reducible first | refine W_seq ?_ | refine W_block ?_ | refine W_skip ?_ | refine W_ret ?_ | refine W_exit ?_ | refine thenQ_normal ?_ | refine thenQ_exit ?_ | refine thenQ_ret ?_ | refine blockQ_normal ?_ | refine blockQ_ret ?_ | refine blockQ_same ?_ | refine blockQ_other rfl ?_)
      refine W_reg (by rfl) ?_; intro gd K hgd hK
      try simp (disch := first | omega | assumption | rfl) only [↓reduceIte, go_sem, Nat.reduceLT, Nat.reduceEqDiff, Nat.reduceSub, h0, ptrOf, hcn]
      rw [wrap_succ]
      refine st_one rfl rfl rfl hroot2 (by simp) (by simp) ?_
      intro A3 hsz3 hb3 hk3
      refine hK _ _ ?_; clear hK hgd; clear K; try clear gd
      have hz3 : A.heap.size + 2 ≤ A1.heap.size := by have := (Array.getElem?_eq_some_iff.1 hnn).1; omega
      have hzx := hx.size
      have hzy := hy.size
      have htbA := hTA.lt (.inl rfl)
      have hmbA := hTA.lt (.inr ⟨_, hin, .inr rfl⟩)
      have hb23 : ∀ b, b < y.heap.size → b ≠ tb → b ≠ s'.mb (sfx (foldN n) k) → A3.heap[b]? = y.heap[b]? := fun b hb h1 h2 =>
        (hk3.block b (by omega) h1).trans (hk2.block b hb h2)
      have hTA3 : TAt A3 tb (s'.add (sfx (foldN n) (k + 1)) A.heap.size (.int .i64 0)) := by
        rw [← hlab]
        refine hTA.add hs' hin hnin (Nat.le_refl _) ?_ ?_ ?_ ?_ ?_
        · rw [hb3]; rfl
        · exact (hb23 _ (by omega) (by omega) (by omega)).trans ((hy.block _ (by omega) (fun h => h)).trans ((hx.block _ (by omega) (fun h => h)).trans hnn))
        · exact hnm.block ((hb23 _ (by omega) (by omega) (by omega)).trans ((hy.block _ (by omega) (fun h => h)).trans (hx.block _ (by omega) (fun h => h))))
        · exact hm2.block (hk3.block _ (by omega) (fun e => htbm e.symm))
        · intro b hb h1 h2
          have hbA := hTA.lt hb
          exact (hb23 b (by omega) h1 h2).trans (hEy.block b hbA (fun h => h))
      have hKA3 : Keep (tblk tb s) w A3 := by
        have hb1 : ∀ b, tblk tb s' b → b < w.heap.size → tblk tb s b := fun b hb hlt => (hblk b hb).resolve_right (by omega)
        refine ⟨?_, ?_, ?_, ?_, fun b hb hnb => ?_, Nat.le_trans hKA.drawn (Nat.le_trans hEy.drawn (Nat.le_trans hk2.drawn hk3.drawn))⟩
        · rw [hk3.os, hk2.os, hEy.os, hKA.os]
        · rw [hk3.tape, hk2.tape, hEy.tape, hKA.tape]
        · rw [hk3.output, hk2.output, hEy.output, hKA.output]
        · have := hKA.size; omega
        · have hsA := hKA.size
          refine (hb23 b (by omega) (fun e => hnb (.inl e)) (fun e => hnb (hb1 b (.inr ⟨_, hin, .inr e⟩) hb))).trans ((hEy.block b (by omega) (fun h => h)).trans (hKA.block b hb hnb))
      have hmem : ∀ f, f ∈ (s'.add (sfx (foldN n) (k + 1)) A.heap.size (.int .i64 0)).names ↔ f ∈ s'.names ∨ f = sfx (foldN n) (k + 1) := fun f => by simp [TS.add]
      repeat (with_reducible first | refine W_seq ?_ | refine W_block ?_ | refine W_skip ?_ | refine W_ret ?_ | refine W_exit ?_ | refine thenQ_normal ?_ | refine thenQ_exit ?_ | refine thenQ_ret ?_ | refine blockQ_normal ?_ | refine blockQ_ret ?_ | refine blockQ_same ?_ | refine blockQ_other rfl ?_)
      refine W_reg (by rfl) ?_; intro gd K hgd hK; simp (disch := first | omega | assumption | rfl) only [↓reduceIte, go_sem, Nat.reduceLT, Nat.reduceEqDiff, Nat.reduceSub, h6]; refine hK _ _ ?_; clear hK hgd; clear K gd
      repeat (with_reducible first | refine W_seq ?_ | refine W_block ?_ | refine W_skip ?_ | refine W_ret ?_ | refine W_exit ?_ | refine thenQ_normal ?_ | refine thenQ_exit ?_ | refine thenQ_ret ?_ | refine blockQ_normal ?_ | refine blockQ_ret ?_ | refine blockQ_same ?_ | refine blockQ_other rfl ?_)
      refine ⟨m - 1, by omega, rfl, k + 1, s'.add (sfx (foldN n) (k + 1)) A.heap.size (.int .i64 0), by omega, by simp only [↓reduceIte, go_sem, Nat.reduceLT, Nat.reduceEqDiff, Nat.reduceSub]; rfl, ?_, by simp only [↓reduceIte, go_sem, Nat.reduceLT, Nat.reduceEqDiff, Nat.reduceSub, h0], by simp only [↓reduceIte, go_sem, Nat.reduceLT, Nat.reduceEqDiff, Nat.reduceSub, h1], by simp only [↓reduceIte, go_sem, Nat.reduceLT, Nat.reduceEqDiff, Nat.reduceSub, h2], ?_, hTA3, ?_, hKA3, ?_, by rw [hmem]; exact .inr rfl, ?_⟩
      · have : (s'.add (sfx (foldN n) (k + 1)) A.heap.size (.int .i64 0)).nb (sfx (foldN n) (k + 1)) = A.heap.size + 1 := by simp [TS.add]
        rw [this]; simp only [↓reduceIte, go_sem, Nat.reduceLT, Nat.reduceEqDiff, Nat.reduceSub]
      · rw [← hlab]
        exact hs'.add rfl hin hnin (fun f hf => hTA.lt (.inr ⟨f, hf, .inl rfl⟩)) (fun f hf => hTA.lt (.inr ⟨f, hf, .inr rfl⟩))
      · refine ⟨fun g => ?_, fun g => ?_, fun g => ?_⟩
        · rw [hmem, hG.names]
          constructor
          · rintro ((h | ⟨j, hj, rfl⟩) | rfl)
            · exact .inl h
            · exact .inr ⟨j, by omega, rfl⟩
            · exact .inr ⟨k + 1, Nat.le_refl _, rfl⟩
          · rintro (h | ⟨j, hj, rfl⟩)
            · exact .inl (.inl h)
            · by_cases e : j = k + 1
              · subst e; exact .inr rfl
              · exact .inl (.inr ⟨j, by omega, rfl⟩)
        · simp only [TS.add]
          split
          · rename_i e; subst e; rw [hlab] at hnin; rw [← hG.val, (hs'.out _ hnin).1]
          · exact hG.val g
        · simp only [TS.add]
          split
          · rename_i e; subst e; rw [hlab] at hnin; rw [← hG.has, (hs'.out _ hnin).2]
          · exact hG.has g
      · rintro b (rfl | ⟨g, hg, hgb⟩)
        · exact .inl (.inl rfl)
        · rw [hmem] at hg
          have hKs := hKA.size
          simp only [TS.add] at hgb
          split at hgb
          · right; omega
          · rename_i hne
            exact hblk b (.inr ⟨g, hg.resolve_right hne, hgb⟩)
      · intro j hj1 hj2
        rw [hmem]
        rintro (h | h)
        · exact hout j (by omega) hj2 h
        · have := congrArg List.length h
          rw [sfx_len (by omega), sfx_len (by omega)] at this
          omega
    · intro hge
      simp only [decide_eq_false_iff_not] at hge
      have hkn : k = n.length := by omega
      subst hkn
      have hsf : sfx (foldN n) n.length = foldN n := by rw [← foldN_len n]; exact sfx_full _
      rw [hsf] at h7 hin
      have hnode := hTA.node _ hin
      repeat (with_reducible first | refine W_seq ?_ | refine W_block ?_ | refine W_skip ?_ | refine W_ret ?_ | refine W_exit ?_ | refine thenQ_normal ?_ | refine thenQ_exit ?_ | refine thenQ_ret ?_ | refine blockQ_normal ?_ | refine blockQ_ret ?_ | refine blockQ_same ?_ | refine blockQ_other rfl ?_)
      refine W_reg (by rfl) ?_; intro gd K hgd hK
      try simp (disch := first | omega | assumption | rfl) only [↓reduceIte, go_sem, Nat.reduceLT, Nat.reduceEqDiff, Nat.reduceSub, h7, h2, ptrOf]
      refine st_one rfl rfl hv hnode (by simp) (by simp) ?_
      intro A3 hsz3 hb3 hk3
      try simp (disch := first | omega | assumption | rfl) only [↓reduceIte, go_sem, Nat.reduceLT, Nat.reduceEqDiff, Nat.reduceSub, h7, h2, ptrOf]
      refine st_one rfl rfl rfl hb3 (by simp) (by simp) ?_
      intro A4 hsz4 hb4 hk4
      refine hK _ _ ?_; clear hK hgd; clear K; try clear gd
      repeat (with_reducible first | refine W_seq ?_ | refine W_block ?_ | refine W_skip ?_ | refine W_ret ?_ | refine W_exit ?_ | refine thenQ_normal ?_ | refine thenQ_exit ?_ | refine thenQ_ret ?_ | refine blockQ_normal ?_ | refine blockQ_ret ?_ | refine blockQ_same ?_ | refine blockQ_other rfl ?_)
      refine ret_none (by simp) rfl ⟨s'.set (foldN n) v, hs'.set hin hv, ?_, ?_, ?_, ?_⟩
      · refine hTA.set hs' hin (by rw [hb4]; rfl) (fun b hb hne => ?_)
        have := hTA.lt hb
        exact (hk4.block b (by omega) hne).trans (hk3.block b this hne)
      · refine ⟨fun g => ?_, fun g => ?_, fun g => ?_⟩
        · show g ∈ s'.names ↔ _
          rw [hG.names]
          constructor
          · rintro (h | ⟨j, hj, rfl⟩)
            · exact .inl h
            · exact .inr (sfx_suffix _ _)
          · rintro (h | h)
            · exact .inl h
            · obtain ⟨j, hj, rfl⟩ := suffix_sfx h
              exact .inr ⟨j, by omega, rfl⟩
        · simp only [TS.set]
          split
          · rfl
          · exact hG.val g
        · simp only [TS.set]
          split
          · rfl
          · exact hG.has g
      · have hb1 : ∀ b, tblk tb s' b → b < w.heap.size → tblk tb s b := fun b hb hlt => (hblk b hb).resolve_right (by omega)
        have hKs := hKA.size
        refine ⟨by rw [hk4.os, hk3.os, hKA.os], by rw [hk4.tape, hk3.tape, hKA.tape], by rw [hk4.output, hk3.output, hKA.output], by omega, fun b hb hnb => ?_, Nat.le_trans hKA.drawn (Nat.le_trans hk3.drawn hk4.drawn)⟩
        have hne : b ≠ s'.nb (foldN n) := fun e => hnb (hb1 b (.inr ⟨_, hin, .inl e⟩) hb)
        exact (hk4.block b (by omega) hne).trans ((hk3.block b (by omega) hne).trans (hKA.block b hb hnb))
      · exact hblk
end Go.Proofs.Ytciadbhnodgpgaa.T_int
