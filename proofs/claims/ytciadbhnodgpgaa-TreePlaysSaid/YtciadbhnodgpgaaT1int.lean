/-
  The contracts of package tree: its ways down, at elements of type int.
  Conditions: none.
-/
import Derived.Test.YtciadbhnodgpgaaT0
set_option linter.unusedVariables false
set_option linter.unusedSimpArgs false
set_option linter.defProp false
namespace Go.Proofs.Ytciadbhnodgpgaa.T_int
open Go Go.Proofs.Ytciadbhnodgpgaa
set_option maxRecDepth 10000

theorem fresh_ok (w : World) : Fn Try.prog 30 #[] w (fun v w' => v = ptrOf (w.heap.size + 1) ∧ w' = (w.alloc (.map #[] 0)).alloc (.cells #[.map (some w.heap.size), (.int .i64 0), .bool false] 60)) := by
  refine enter Try.func30 Try.ntmps30 rfl rfl ?_
  repeat (with_reducible first | refine W_seq ?_ | refine W_block ?_ | refine W_skip ?_ | refine W_ret ?_ | refine W_exit ?_ | refine thenQ_normal ?_ | refine thenQ_exit ?_ | refine thenQ_ret ?_ | refine blockQ_normal ?_ | refine blockQ_ret ?_ | refine blockQ_same ?_ | refine blockQ_other rfl ?_)
  refine W_reg (by rfl) ?_; intro gd K hgd hK; simp (disch := first | omega | assumption | rfl) only [↓reduceIte, go_sem, Nat.reduceLT, Nat.reduceEqDiff, Nat.reduceSub]; refine hK _ _ ?_; clear hK hgd; clear K gd
  repeat (with_reducible first | refine W_seq ?_ | refine W_block ?_ | refine W_skip ?_ | refine W_ret ?_ | refine W_exit ?_ | refine thenQ_normal ?_ | refine thenQ_exit ?_ | refine thenQ_ret ?_ | refine blockQ_normal ?_ | refine blockQ_ret ?_ | refine blockQ_same ?_ | refine blockQ_other rfl ?_)
  refine W_reg (by rfl) ?_; intro gd K hgd hK
  try simp (disch := first | omega | assumption | rfl) only [↓reduceIte, go_sem, Nat.reduceLT, Nat.reduceEqDiff, Nat.reduceSub]
  refine ⟨by kernel_rfl, ?_⟩
  rw [show bdV Try.prog 60 [(0, .map (some w.heap.size))] = some (.agg #[.map (some w.heap.size), (.int .i64 0), .bool false]) from by kernel_rfl]
  try simp (disch := first | omega | assumption | rfl) only [↓reduceIte, go_sem, Nat.reduceLT, Nat.reduceEqDiff, Nat.reduceSub]
  refine hK _ _ ?_; clear hK hgd; clear K; try clear gd
  repeat (with_reducible first | refine W_seq ?_ | refine W_block ?_ | refine W_skip ?_ | refine W_ret ?_ | refine W_exit ?_ | refine thenQ_normal ?_ | refine thenQ_exit ?_ | refine thenQ_ret ?_ | refine blockQ_normal ?_ | refine blockQ_ret ?_ | refine blockQ_same ?_ | refine blockQ_other rfl ?_)
  refine ret_one (by simp) rfl Try.ntmps30 (by simp only [↓reduceIte, go_sem, Nat.reduceLT, Nat.reduceEqDiff, Nat.reduceSub]; rfl) ?_
  simp [ptrOf]

abbrev TAt := TreeAt 55 60

abbrev TOk := TSok (.int .i64 0)

/-- the tree that has the root alone -/
def ts0 (B : Nat) : TS := { names := [[]], val := fun _ => (.int .i64 0), has := fun _ => false, nb := fun _ => B + 1, mb := fun _ => B }

theorem New_ok (w : World) : Fn Try.prog 9 #[] w (fun v w' => v = ptrOf (w.heap.size + 2) ∧ Ext w w' ∧ TOk (ts0 w.heap.size) ∧ TAt w' (w.heap.size + 2) (ts0 w.heap.size)) := by
  refine enter Try.func9 Try.ntmps9 rfl rfl ?_
  repeat (with_reducible first | refine W_seq ?_ | refine W_block ?_ | refine W_skip ?_ | refine W_ret ?_ | refine W_exit ?_ | refine thenQ_normal ?_ | refine thenQ_exit ?_ | refine thenQ_ret ?_ | refine blockQ_normal ?_ | refine blockQ_ret ?_ | refine blockQ_same ?_ | refine blockQ_other rfl ?_)
  refine W_reg (by rfl) ?_; intro gd K hgd hK; simp (disch := first | omega | assumption | rfl) only [↓reduceIte, go_sem, Nat.reduceLT, Nat.reduceEqDiff, Nat.reduceSub]; refine hK _ _ ?_; clear hK hgd; clear K gd
  repeat (with_reducible first | refine W_seq ?_ | refine W_block ?_ | refine W_skip ?_ | refine W_ret ?_ | refine W_exit ?_ | refine thenQ_normal ?_ | refine thenQ_exit ?_ | refine thenQ_ret ?_ | refine blockQ_normal ?_ | refine blockQ_ret ?_ | refine blockQ_same ?_ | refine blockQ_other rfl ?_)
  refine W_reg (by rfl) ?_; intro gd K hgd hK
  try simp (disch := first | omega | assumption | rfl) only [↓reduceIte, go_sem, Nat.reduceLT, Nat.reduceEqDiff, Nat.reduceSub]
  refine Fn.mono (fresh_ok w) ?_
  rintro _ w1 ⟨rfl, rfl⟩
  try simp (disch := first | omega | assumption | rfl) only [↓reduceIte, go_sem, Nat.reduceLT, Nat.reduceEqDiff, Nat.reduceSub]
  refine ⟨by kernel_rfl, ?_⟩
  rw [show bdV Try.prog 55 [(0, ptrOf (w.heap.size + 1)), (1, .int .i64 1)] = some (.agg #[ptrOf (w.heap.size + 1), .int .i64 1]) from by kernel_rfl]
  try simp (disch := first | omega | assumption | rfl) only [↓reduceIte, go_sem, Nat.reduceLT, Nat.reduceEqDiff, Nat.reduceSub]
  refine hK _ _ ?_; clear hK hgd; clear K; try clear gd
  repeat (with_reducible first | refine W_seq ?_ | refine W_block ?_ | refine W_skip ?_ | refine W_ret ?_ | refine W_exit ?_ | refine thenQ_normal ?_ | refine thenQ_exit ?_ | refine thenQ_ret ?_ | refine blockQ_normal ?_ | refine blockQ_ret ?_ | refine blockQ_same ?_ | refine blockQ_other rfl ?_)
  refine ret_one (by simp) rfl Try.ntmps9 (by simp only [↓reduceIte, go_sem, Nat.reduceLT, Nat.reduceEqDiff, Nat.reduceSub]; rfl) ?_
  have hE := ((Ext.alloc w (.map #[] 0)).trans (Ext.alloc _ (.cells #[.map (some w.heap.size), (.int .i64 0), .bool false] 60))).trans (Ext.alloc _ (.cells #[ptrOf (w.heap.size + 1), .int .i64 1] 55))
  refine ⟨by simp [ptrOf], hE, ⟨by simp [ts0], by simp [ts0], by simp [ts0], by simp [ts0], by simp [ts0], fun _ => rfl, fun _ _ => ⟨rfl, rfl⟩⟩, ?_, ?_, ?_⟩
  · have := new_block ((w.alloc (.map #[] 0)).alloc (.cells #[.map (some w.heap.size), (.int .i64 0), .bool false] 60)) (.cells #[ptrOf (w.heap.size + 1), .int .i64 1] 55)
    simp only [World.size_alloc] at this
    exact this
  · intro f hf
    have := new_block (w.alloc (.map #[] 0)) (.cells #[.map (some w.heap.size), (.int .i64 0), .bool false] 60)
    simp only [World.size_alloc] at this
    exact (RowKit.Below.heap_alloc _ _ _ (by simp [ts0])).trans this
  · intro f hf
    simp only [ts0, List.mem_singleton] at hf
    subst hf
    exact (new_map w).block ((RowKit.Below.heap_alloc _ _ _ (by simp; omega)).trans (RowKit.Below.heap_alloc _ _ _ (by simp)))

def encD (s : TS) (f : Nm) (k : Nat) (_ : World) (args : Array Value) : Prop := args = #[vi k, ptrOf (s.nb (sfx f k))]

theorem range_split {m : Nat} {i : Nat} (h : i < m) : ∃ suf, List.range m = List.range i ++ i :: suf := by
  refine ⟨(List.range m).drop (i + 1), ?_⟩
  have := split_at (l := List.range m) (i := i) (by simpa using h)
  rw [List.take_range, Nat.min_eq_left (by omega)] at this
  simpa using this

theorem down1_ok {W00 W0 : World} {n0 : Nat} {C : Nat → Prop} {b1 b2 tb : Nat} {s : TS} {n : Nm} {nv : Value} (hT : TAt W00 tb s) (hs : TOk s) (hr : Row W00 nv (n.map vs)) (hn : LB n) (hlen : n.length ≤ 9000000000000000000)
    (hE : Ext W00 W0) (hC : ∀ b, C b → W00.heap.size ≤ b) (hn0 : W00.heap.size ≤ n0)
    (h1 : W0.cell? ⟨b1, 0, Option.none⟩ = some (ptrOf tb)) (h1n : b1 < n0) (h1C : ¬ C b1) (h2 : W0.cell? ⟨b2, 0, Option.none⟩ = some nv) (h2n : b2 < n0) (h2C : ¬ C b2) :
    Iter Try.prog 63 #[ptrOf b1, ptrOf b2] W0 n0 C (List.range (dep s.names (foldN n) + 1)) (encD s (foldN n)) := by
  intro lp J Jx W hW hnW hJ hJx hY h0
  have hfl : (foldN n).length = n.length := foldN_len n
  have hdl := dep_le s.names (foldN n)
  generalize hd : dep s.names (foldN n) = d at *
  have fact : ∀ A, KeepB n0 C W A → TAt A tb s ∧ Row A nv (n.map vs) ∧ A.cell? ⟨b1, 0, Option.none⟩ = some (ptrOf tb) ∧ A.cell? ⟨b2, 0, Option.none⟩ = some nv := fun A hA => by
    have hEA := KeepB.to_ext (hE.trans hW) hA hn0 hC
    exact ⟨hT.ext hEA, hr.ext hEA, cell_keepB hA h1n h1C (cell_ext hW h1), cell_keepB hA h2n h2C (cell_ext hW h2)⟩
  obtain ⟨hT1, hr1, hc1, hc2⟩ := fact W (KeepB.refl _ _ _)
  have hroot : cellO W (some ⟨tb, 0, Option.none⟩) = some (ptrOf (s.nb [])) := by
    show W.cell? _ = _
    rw [cell_of hT1.root]; rfl
  have hc1' : cellO W (some ⟨b1, 0, Option.none⟩) = some (ptrOf tb) := hc1
  unfold ptrOf at hc1' hroot
  refine enter Try.func63 Try.ntmps63 rfl rfl ?_
  repeat (with_reducible first | refine W_seq ?_ | refine W_block ?_ | refine W_skip ?_ | refine W_ret ?_ | refine W_exit ?_ | refine thenQ_normal ?_ | refine thenQ_exit ?_ | refine thenQ_ret ?_ | refine blockQ_normal ?_ | refine blockQ_ret ?_ | refine blockQ_same ?_ | refine blockQ_other rfl ?_)
  refine W_reg (by rfl) ?_; intro gd K hgd hK; simp (disch := first | omega | assumption | rfl) only [↓reduceIte, go_sem, Nat.reduceLT, Nat.reduceEqDiff, Nat.reduceSub, ptrOf, hc1', hroot]; refine hK _ _ ?_; clear hK hgd; clear K gd
  repeat (with_reducible first | refine W_seq ?_ | refine W_block ?_ | refine W_skip ?_ | refine W_ret ?_ | refine W_exit ?_ | refine thenQ_normal ?_ | refine thenQ_exit ?_ | refine thenQ_ret ?_ | refine blockQ_normal ?_ | refine blockQ_ret ?_ | refine blockQ_same ?_ | refine blockQ_other rfl ?_)
  refine W_reg (by rfl) ?_; intro gd K hgd hK; simp (disch := first | omega | assumption | rfl) only [↓reduceIte, go_sem, Nat.reduceLT, Nat.reduceEqDiff, Nat.reduceSub]; refine hK _ _ ?_; clear hK hgd; clear K gd
  repeat (with_reducible first | refine W_seq ?_ | refine W_block ?_ | refine W_skip ?_ | refine W_ret ?_ | refine W_exit ?_ | refine thenQ_normal ?_ | refine thenQ_exit ?_ | refine thenQ_ret ?_ | refine blockQ_normal ?_ | refine blockQ_ret ?_ | refine blockQ_same ?_ | refine blockQ_other rfl ?_)
  refine W_loop (fun m σ ds v => ds = [] ∧ ∃ i, i + m = d + 1 ∧ σ 5 = vi i ∧ σ 0 = .func (.yield lp) #[] #[] ∧ σ 1 = ptrOf b1 ∧ σ 2 = ptrOf b2 ∧ J (List.range i) v ∧ KeepB n0 C W v ∧
    ((i ≤ d ∧ σ 4 = ptrOf (s.nb (sfx (foldN n) i))) ∨ (i = d + 1 ∧ σ 4 = .pointer Option.none))) (d + 1) ?_ ?_
  · refine ⟨rfl, 0, by omega, ?_, ?_, ?_, ?_, h0, KeepB.refl _ _ _, .inl ⟨by omega, ?_⟩⟩
    · simp only [↓reduceIte, go_sem, Nat.reduceLT, Nat.reduceEqDiff, Nat.reduceSub]; rfl
    · simp only [↓reduceIte, go_sem, Nat.reduceLT, Nat.reduceEqDiff, Nat.reduceSub]
    · simp only [↓reduceIte, go_sem, Nat.reduceLT, Nat.reduceEqDiff, Nat.reduceSub]
    · simp only [↓reduceIte, go_sem, Nat.reduceLT, Nat.reduceEqDiff, Nat.reduceSub]
    · rw [sfx_zero]; simp only [↓reduceIte, go_sem, Nat.reduceLT, Nat.reduceEqDiff, Nat.reduceSub]
  · rintro m σ ds v ⟨rfl, i, him, h5, hf0, hf1, hf2, hj, hK0, hat⟩
    obtain ⟨hTv, hrv, hcv1, hcv2⟩ := fact v hK0
    repeat (with_reducible first | refine W_seq ?_ | refine W_block ?_ | refine W_skip ?_ | refine W_ret ?_ | refine W_exit ?_ | refine thenQ_normal ?_ | refine thenQ_exit ?_ | refine thenQ_ret ?_ | refine blockQ_normal ?_ | refine blockQ_ret ?_ | refine blockQ_same ?_ | refine blockQ_other rfl ?_)
    refine W_reg (by rfl) ?_; intro gd K hgd hK
    have hg2 : ∀ n σ b, wantV gd n σ (some (2, b)) = boolIs (ev n σ (.tmp 12)) b := (fun n σ b => by rw [wantV_some, show gd 2 = some 12 from (by rw [hgd]; rfl)]; rfl); have hg8 : ∀ n σ b, wantV gd n σ (some (8, b)) = boolIs (ev n σ (.tmp 18)) b := (fun n σ b => by rw [wantV_some, show gd 8 = some 18 from (by rw [hgd]; rfl)]; rfl)
    rcases hat with ⟨hid, h4⟩ | ⟨hid, h4⟩
    · have h4p := h4
      unfold ptrOf at h4p
      simp (disch := first | omega | assumption | rfl) only [↓reduceIte, go_sem, Nat.reduceLT, Nat.reduceEqDiff, Nat.reduceSub, h5, hf0, h4p, ↓hg2, ↓hg8]
      obtain ⟨suf, hsuf⟩ := range_split (m := d + 1) (i := i) (by omega)
      have hrs : List.range i ++ [i] = List.range (i + 1) := (List.range_succ).symm
      refine Yld.mono (hY (List.range i) i suf v _ hsuf hj hK0 rfl) ?_
      rintro u z (⟨rfl, hj', hk'⟩ | ⟨rfl, hjx⟩)
      · have hK1 := hK0.trans hk'
        obtain ⟨hTz, hrz, hcz1, hcz2⟩ := fact z hK1
        rw [hrs] at hj'
        obtain ⟨a, ca, hnv, hca, hla⟩ := hrz
        simp only [List.length_map] at hnv hca hla
        have hcz2' : cellO z (some ⟨b2, 0, Option.none⟩) = some (.slice a n.length ca) := by rw [← hnv]; exact hcz2
        try simp (disch := first | omega | assumption | rfl) only [↓reduceIte, go_sem, Nat.reduceLT, Nat.reduceEqDiff, Nat.reduceSub, h5, hf0, hf2, ptrOf, hcz2', ↓hg2, ↓hg8]
        refine hK _ _ ?_; clear hK hgd; clear K; try clear gd
        repeat (with_reducible first | refine W_seq ?_ | refine W_block ?_ | refine W_skip ?_ | refine W_ret ?_ | refine W_exit ?_ | refine thenQ_normal ?_ | refine thenQ_exit ?_ | refine thenQ_ret ?_ | refine blockQ_normal ?_ | refine blockQ_ret ?_ | refine blockQ_same ?_ | refine blockQ_other rfl ?_)
        refine W_cond (by simp only [↓reduceIte, go_sem, Nat.reduceLT, Nat.reduceEqDiff, Nat.reduceSub]; rfl) ?_ ?_
        · intro hlt
          simp only [decide_eq_true_eq] at hlt
          repeat (with_reducible first | refine W_seq ?_ | refine W_block ?_ | refine W_skip ?_ | refine W_ret ?_ | refine W_exit ?_ | refine thenQ_normal ?_ | refine thenQ_exit ?_ | refine thenQ_ret ?_ | refine blockQ_normal ?_ | refine blockQ_ret ?_ | refine blockQ_same ?_ | refine blockQ_other rfl ?_)
          refine W_drw (fun _ => false) [(0, true), (1, true), (2, true), (3, true), (4, true), (5, true), (6, true), (7, true), (8, true), (9, true), (10, true), (11, true), (12, false), (13, true), (14, true)] NoS mixed (by kernel_rfl) ?_; intro gd K x hgd hx hxe hK; clear hxe
          have hKy := hK1.trans (hx.toB (Nat.le_trans hnW hK1.size) (fun _ _ h => h.elim))
          have hsy := Nat.le_trans hnW hKy.size
          obtain ⟨hTx, hrx, hcx1, hcx2⟩ := fact _ hKy
          have hla' := fun j h => cellO_ext hx (hla j h)
          have hsa : a.isSome = true := some_of_cellO (hla 0 (by omega))
          have hcx2' : cellO x (some ⟨b2, 0, Option.none⟩) = some (.slice a n.length ca) := by rw [← hnv]; exact hcx2
          have hin : sfx (foldN n) i ∈ s.names := sfx_in hs (by omega)
          have hkids : cellO x (some ⟨s.nb (sfx (foldN n) i), 0, Option.none⟩) = some (.map (some (s.mb (sfx (foldN n) i)))) := by
            show x.cell? _ = _
            rw [cell_of (hTx.node _ hin)]; rfl
          have hix : ((n.length : Int) - 1 - i).toNat = n.length - 1 - i := by omega
          simp (disch := first | omega | assumption | rfl) only [↓reduceIte, go_sem, Nat.reduceLT, Nat.reduceEqDiff, Nat.reduceSub, h4p, h5, hf0, hf2, ptrOf, hcx2', hkids, hix, hla', List.getElem_map]
          refine Fn.mono (LFold_ok _ _ (LB.get hn _)) ?_
          rintro _ y ⟨rfl, hy⟩
          refine ⟨.inr hy, ?_⟩
          have hKy := hKy.trans (hy.toB hsy (fun _ _ h => h.elim))
          have hTy := (fact y hKy).1
          have hlk := (hTy.map _ hin).lk (P := Try.prog) (t := 58) (kt := 9) (et := 52) (z := .pointer Option.none) rfl rfl rfl (foldL n[n.length - 1 - i])
          have hlab : foldL n[n.length - 1 - i] :: sfx (foldN n) i = sfx (foldN n) (i + 1) := by
            rw [sfx_succ (by omega)]; simp [foldN]
          rw [kid_lookup, hlab] at hlk
          simp (disch := first | omega | assumption | rfl) only [↓reduceIte, go_sem, Nat.reduceLT, Nat.reduceEqDiff, Nat.reduceSub, hlk]
          refine ⟨fun _ _ h => h, ?_⟩
          refine hK _ _ ?_; clear hK hgd; clear K; try clear gd
          repeat (with_reducible first | refine W_seq ?_ | refine W_block ?_ | refine W_skip ?_ | refine W_ret ?_ | refine W_exit ?_ | refine thenQ_normal ?_ | refine thenQ_exit ?_ | refine thenQ_ret ?_ | refine blockQ_normal ?_ | refine blockQ_ret ?_ | refine blockQ_same ?_ | refine blockQ_other rfl ?_)
          refine W_reg (by rfl) ?_; intro gd K hgd hK; simp (disch := first | omega | assumption | rfl) only [↓reduceIte, go_sem, Nat.reduceLT, Nat.reduceEqDiff, Nat.reduceSub, h5]; refine hK _ _ ?_; clear hK hgd; clear K gd
          repeat (with_reducible first | refine W_seq ?_ | refine W_block ?_ | refine W_skip ?_ | refine W_ret ?_ | refine W_exit ?_ | refine thenQ_normal ?_ | refine thenQ_exit ?_ | refine thenQ_ret ?_ | refine blockQ_normal ?_ | refine blockQ_ret ?_ | refine blockQ_same ?_ | refine blockQ_other rfl ?_)
          refine ⟨m - 1, by omega, rfl, i + 1, by omega, by simp only [↓reduceIte, go_sem, Nat.reduceLT, Nat.reduceEqDiff, Nat.reduceSub]; rfl, by simp only [↓reduceIte, go_sem, Nat.reduceLT, Nat.reduceEqDiff, Nat.reduceSub, hf0], by simp only [↓reduceIte, go_sem, Nat.reduceLT, Nat.reduceEqDiff, Nat.reduceSub, hf1], by simp only [↓reduceIte, go_sem, Nat.reduceLT, Nat.reduceEqDiff, Nat.reduceSub, hf2], hJ _ _ _ hj' (hx.trans hy), hKy, ?_⟩
          by_cases hup : i + 1 ≤ d
          · rw [if_pos (sfx_in hs (by omega))]
            exact .inl ⟨hup, by simp only [↓reduceIte, go_sem, Nat.reduceLT, Nat.reduceEqDiff, Nat.reduceSub]; rfl⟩
          · rw [if_neg (sfx_out hs (by omega) (by omega))]
            exact .inr ⟨by omega, by simp only [↓reduceIte, go_sem, Nat.reduceLT, Nat.reduceEqDiff, Nat.reduceSub]; rfl⟩
        · intro hge
          simp only [decide_eq_false_iff_not] at hge
          repeat (with_reducible first | refine W_seq ?_ | refine W_block ?_ | refine W_skip ?_ | refine W_ret ?_ | refine W_exit ?_ | refine thenQ_normal ?_ | refine thenQ_exit ?_ | refine thenQ_ret ?_ | refine blockQ_normal ?_ | refine blockQ_ret ?_ | refine blockQ_same ?_ | refine blockQ_other rfl ?_)
          have hi : i = d := by omega
          subst hi
          exact ret_none (by simp) rfl (.inl hj')
      · try simp (disch := first | omega | assumption | rfl) only [↓reduceIte, go_sem, Nat.reduceLT, Nat.reduceEqDiff, Nat.reduceSub, h5, hf0, hf2, ↓hg2, ↓hg8]
        refine hK _ _ ?_; clear hK hgd; clear K; try clear gd
        repeat (with_reducible first | refine W_seq ?_ | refine W_block ?_ | refine W_skip ?_ | refine W_ret ?_ | refine W_exit ?_ | refine thenQ_normal ?_ | refine thenQ_exit ?_ | refine thenQ_ret ?_ | refine blockQ_normal ?_ | refine blockQ_ret ?_ | refine blockQ_same ?_ | refine blockQ_other rfl ?_)
        refine W_cond (by simp only [↓reduceIte, go_sem, Nat.reduceLT, Nat.reduceEqDiff, Nat.reduceSub]; rfl) ?_ ?_
        · intro h; simp at h
        · intro _
          repeat (with_reducible first | refine W_seq ?_ | refine W_block ?_ | refine W_skip ?_ | refine W_ret ?_ | refine W_exit ?_ | refine thenQ_normal ?_ | refine thenQ_exit ?_ | refine thenQ_ret ?_ | refine blockQ_normal ?_ | refine blockQ_ret ?_ | refine blockQ_same ?_ | refine blockQ_other rfl ?_)
          exact ret_none (by simp) rfl (.inr ⟨_, _, _, hsuf, hjx⟩)
    · try simp (disch := first | omega | assumption | rfl) only [↓reduceIte, go_sem, Nat.reduceLT, Nat.reduceEqDiff, Nat.reduceSub, h5, hf0, h4, ↓hg2, ↓hg8]
      refine hK _ _ ?_; clear hK hgd; clear K; try clear gd
      repeat (with_reducible first | refine W_seq ?_ | refine W_block ?_ | refine W_skip ?_ | refine W_ret ?_ | refine W_exit ?_ | refine thenQ_normal ?_ | refine thenQ_exit ?_ | refine thenQ_ret ?_ | refine blockQ_normal ?_ | refine blockQ_ret ?_ | refine blockQ_same ?_ | refine blockQ_other rfl ?_)
      refine W_cond (by simp only [↓reduceIte, go_sem, Nat.reduceLT, Nat.reduceEqDiff, Nat.reduceSub]; rfl) ?_ ?_
      · intro h; simp at h
      · intro _
        repeat (with_reducible first | refine W_seq ?_ | refine W_block ?_ | refine W_skip ?_ | refine W_ret ?_ | refine W_exit ?_ | refine thenQ_normal ?_ | refine thenQ_exit ?_ | refine thenQ_ret ?_ | refine blockQ_normal ?_ | refine blockQ_ret ?_ | refine blockQ_same ?_ | refine blockQ_other rfl ?_)
        subst hid
        exact ret_none (by simp) rfl (.inl hj)

theorem down_ok {W00 w : World} {tb : Nat} {s : TS} {n : Nm} {nv : Value} (hT : TAt W00 tb s) (hs : TOk s) (hr : Row W00 nv (n.map vs)) (hn : LB n) (hlen : n.length ≤ 9000000000000000000) (hE : Ext W00 w) :
    Fn Try.prog 51 #[ptrOf tb, nv] w (fun v w' => Ext w w' ∧ ∃ cap, v = .func (.func 63) #[] cap ∧
      ∀ C : Nat → Prop, (∀ b, C b → W00.heap.size ≤ b ∧ b < w.heap.size) → Iter Try.prog 63 cap w' w'.heap.size C (List.range (dep s.names (foldN n) + 1)) (encD s (foldN n))) := by
  obtain ⟨a, ca, rfl, hca, hla⟩ := id hr
  simp only [List.length_map] at *
  refine enter Try.func51 Try.ntmps51 rfl rfl ?_
  repeat (with_reducible first | refine W_seq ?_ | refine W_block ?_ | refine W_skip ?_ | refine W_ret ?_ | refine W_exit ?_ | refine thenQ_normal ?_ | refine thenQ_exit ?_ | refine thenQ_ret ?_ | refine blockQ_normal ?_ | refine blockQ_ret ?_ | refine blockQ_same ?_ | refine blockQ_other rfl ?_)
  refine W_reg (by rfl) ?_; intro gd K hgd hK; simp (disch := first | omega | assumption | rfl) only [↓reduceIte, go_sem, Nat.reduceLT, Nat.reduceEqDiff, Nat.reduceSub]; refine hK _ _ ?_; clear hK hgd; clear K gd
  repeat (with_reducible first | refine W_seq ?_ | refine W_block ?_ | refine W_skip ?_ | refine W_ret ?_ | refine W_exit ?_ | refine thenQ_normal ?_ | refine thenQ_exit ?_ | refine thenQ_ret ?_ | refine blockQ_normal ?_ | refine blockQ_ret ?_ | refine blockQ_same ?_ | refine blockQ_other rfl ?_)
  refine W_reg (by rfl) ?_; intro gd K hgd hK; simp (disch := first | omega | assumption | rfl) only [↓reduceIte, go_sem, Nat.reduceLT, Nat.reduceEqDiff, Nat.reduceSub]; refine hK _ _ ?_; clear hK hgd; clear K gd
  repeat (with_reducible first | refine W_seq ?_ | refine W_block ?_ | refine W_skip ?_ | refine W_ret ?_ | refine W_exit ?_ | refine thenQ_normal ?_ | refine thenQ_exit ?_ | refine thenQ_ret ?_ | refine blockQ_normal ?_ | refine blockQ_ret ?_ | refine blockQ_same ?_ | refine blockQ_other rfl ?_)
  refine ret_one (by simp) rfl Try.ntmps51 (by simp only [↓reduceIte, go_sem, Nat.reduceLT, Nat.reduceEqDiff, Nat.reduceSub]; rfl) ?_
  have hE1 := (Ext.alloc w (.cells #[ptrOf tb] 27)).trans (Ext.alloc _ (.cells #[.slice a n.length ca] 24))
  refine ⟨hE1, _, rfl, fun C hC => ?_⟩
  have e1 : (w.alloc (.cells #[ptrOf tb] 27)).heap.size = w.heap.size + 1 := by simp
  rw [e1]
  refine down1_ok hT hs hr hn hlen (hE.trans hE1) (fun b hb => (hC b hb).1) (Nat.le_trans hE.size hE1.size) ?_ (by simp; omega) (fun h => by have := (hC _ h).2; omega) ?_ (by simp) (fun h => by have := (hC _ h).2; omega)
  · rw [cell_of ((RowKit.Below.heap_alloc _ _ _ (by simp)).trans (new_block w _))]; rfl
  · have := new_block (w.alloc (.cells #[ptrOf tb] 27)) (.cells #[.slice a n.length ca] 24)
    rw [e1] at this
    rw [cell_of this]; rfl

theorem deepest_ok {w : World} {tb : Nat} {s : TS} {n : Nm} {nv : Value} (hT : TAt w tb s) (hs : TOk s) (hr : Row w nv (n.map vs)) (hn : LB n) (hlen : n.length ≤ 9000000000000000000) :
    Fn Try.prog 31 #[ptrOf tb, nv] w (fun v w' => v = .tuple #[vi (dep s.names (foldN n)), ptrOf (s.nb (sfx (foldN n) (dep s.names (foldN n))))] ∧ Ext w w') := by
  obtain ⟨a, ca, rfl, hca, hla⟩ := id hr
  simp only [List.length_map] at *
  refine enter Try.func31 Try.ntmps31 rfl rfl ?_
  repeat (with_reducible first | refine W_seq ?_ | refine W_block ?_ | refine W_skip ?_ | refine W_ret ?_ | refine W_exit ?_ | refine thenQ_normal ?_ | refine thenQ_exit ?_ | refine thenQ_ret ?_ | refine blockQ_normal ?_ | refine blockQ_ret ?_ | refine blockQ_same ?_ | refine blockQ_other rfl ?_)
  refine W_reg (by rfl) ?_; intro gd K hgd hK; simp (disch := first | omega | assumption | rfl) only [↓reduceIte, go_sem, Nat.reduceLT, Nat.reduceEqDiff, Nat.reduceSub]; refine hK _ _ ?_; clear hK hgd; clear K gd
  repeat (with_reducible first | refine W_skip ?_ | refine W_ret ?_ | refine W_exit ?_ | refine thenQ_normal ?_ | refine thenQ_exit ?_ | refine thenQ_ret ?_ | refine blockQ_normal ?_ | refine blockQ_ret ?_ | refine blockQ_same ?_ | refine blockQ_other rfl ?_)
  refine W_mid (fun σ ds A => ds = [] ∧ σ 0 = ptrOf tb ∧ σ 1 = .slice a n.length ca ∧ ∃ b6 b7, σ 6 = ptrOf b6 ∧ σ 7 = ptrOf b7 ∧ b6 ≠ b7 ∧ w.heap.size ≤ b6 ∧ w.heap.size ≤ b7 ∧ Ext w A ∧
    A.heap[b6]? = some (.cells #[vi 0] 3 (0, 0)) ∧ A.heap[b7]? = some (.cells #[ptrOf (s.nb [])] 52 (0, 0))) ?_ ?_
  · refine W_tree (fun i => i == 7) (.run [(0, true), (1, true), (2, true), (3, true)] (.fork 3 [4, 5] (fun i => if i = 4 then (.run [(5, false), (6, false), (7, false)] .fin) else (.run [(4, false), (6, false), (7, false)] .fin)))) (above w.heap.size) mixed (by kernel_rfl) ?_; intro gd K x hgd hx hxe hK; clear hxe
    have hEx : Ext w x := Keep.to_ext (Keep.refl _ _) rfl (fun b hb => hb) hx
    have hroot : cellO x (some ⟨tb, 0, Option.none⟩) = some (ptrOf (s.nb [])) := by
      show x.cell? _ = _
      rw [cell_of (hT.ext hEx).root]; rfl
    have htb : tb < w.heap.size := (Array.getElem?_eq_some_iff.1 hT.root).1
    have hsx := hEx.size
    unfold ptrOf at hroot
    simp (disch := first | omega | assumption | rfl) only [↓reduceIte, go_sem, Nat.reduceLT, Nat.reduceEqDiff, Nat.reduceSub, ptrOf, hroot, offS_above htb]
    simp only [allL_more, allL_one]; refine ⟨?_, ?_⟩
    · simp (disch := first | omega | assumption | rfl) only [↓reduceIte, go_sem, Nat.reduceLT, Nat.reduceEqDiff, Nat.reduceSub]
      refine ⟨.inr (Ext.alloc _ _).keep, .inr (Ext.alloc _ _).keep, ?_⟩
      have hb1 := new_block x (.cells #[.int .i64 0] 3 (0, 0))
      have hE2 := (Ext.alloc x (.cells #[.int .i64 0] 3 (0, 0))).trans (Ext.alloc _ (.cells #[.pointer Option.none] 52 (0, 0)))
      have hb1' := (RowKit.Below.heap_alloc _ (.cells #[.pointer Option.none] 52 (0, 0)) _ (by simp)).trans hb1
      have hb2 := new_block (x.alloc (.cells #[.int .i64 0] 3 (0, 0))) (.cells #[.pointer Option.none] 52 (0, 0))
      rw [new_size] at hb2 ⊢
      refine st_one rfl rfl rfl hb1' (by simp) (by simp) ?_
      intro x1 hs1 hx1 hk1
      refine ⟨.inr (hk1.mono (fun b _ hb => by show _ ≤ b; omega)), ?_⟩
      simp (disch := first | omega | assumption | rfl) only [↓reduceIte, go_sem, Nat.reduceLT, Nat.reduceEqDiff, Nat.reduceSub]
      refine st_one rfl rfl rfl ((hk1.block _ (by simp) (by omega)).trans hb2) (by simp) (by simp) ?_
      intro x2 hs2 hx2 hk2
      refine ⟨.inl rfl, ?_⟩
      simp (disch := first | omega | assumption | rfl) only [↓reduceIte, go_sem, Nat.reduceLT, Nat.reduceEqDiff, Nat.reduceSub]
      refine hK _ _ ?_; clear hK hgd; clear K; try clear gd
      repeat (with_reducible first | refine W_skip ?_ | refine W_ret ?_ | refine W_exit ?_ | refine thenQ_normal ?_ | refine thenQ_exit ?_ | refine thenQ_ret ?_ | refine blockQ_normal ?_ | refine blockQ_ret ?_ | refine blockQ_same ?_ | refine blockQ_other rfl ?_)
      refine ⟨rfl, by simp only [↓reduceIte, go_sem, Nat.reduceLT, Nat.reduceEqDiff, Nat.reduceSub], by simp only [↓reduceIte, go_sem, Nat.reduceLT, Nat.reduceEqDiff, Nat.reduceSub], x.heap.size, x.heap.size + 1, by simp only [↓reduceIte, go_sem, Nat.reduceLT, Nat.reduceEqDiff, Nat.reduceSub], by simp only [↓reduceIte, go_sem, Nat.reduceLT, Nat.reduceEqDiff, Nat.reduceSub], by omega, hsx, by omega, ?_, (hk2.block _ (by rw [hs1]; simp; omega) (by omega)).trans hx1, hx2⟩
      exact Keep.to_ext (Keep.to_ext (hEx.trans hE2) rfl (fun b hb => by omega) hk1) rfl (fun b hb => by omega) hk2
    · simp (disch := first | omega | assumption | rfl) only [↓reduceIte, go_sem, Nat.reduceLT, Nat.reduceEqDiff, Nat.reduceSub]
      refine ⟨.inr (Ext.alloc _ _).keep, .inr (Ext.alloc _ _).keep, ?_⟩
      have hb1 := new_block x (.cells #[.pointer Option.none] 52 (0, 0))
      have hE2 := (Ext.alloc x (.cells #[.pointer Option.none] 52 (0, 0))).trans (Ext.alloc _ (.cells #[.int .i64 0] 3 (0, 0)))
      have hb1' := (RowKit.Below.heap_alloc _ (.cells #[.int .i64 0] 3 (0, 0)) _ (by simp)).trans hb1
      have hb2 := new_block (x.alloc (.cells #[.pointer Option.none] 52 (0, 0))) (.cells #[.int .i64 0] 3 (0, 0))
      rw [new_size] at hb2 ⊢
      refine st_one rfl rfl rfl hb2 (by simp) (by simp) ?_
      intro x1 hs1 hx1 hk1
      refine ⟨.inr (hk1.mono (fun b _ hb => by show _ ≤ b; omega)), ?_⟩
      simp (disch := first | omega | assumption | rfl) only [↓reduceIte, go_sem, Nat.reduceLT, Nat.reduceEqDiff, Nat.reduceSub]
      refine st_one rfl rfl rfl ((hk1.block _ (by simp; omega) (by omega)).trans hb1') (by simp) (by simp) ?_
      intro x2 hs2 hx2 hk2
      refine ⟨.inl rfl, ?_⟩
      simp (disch := first | omega | assumption | rfl) only [↓reduceIte, go_sem, Nat.reduceLT, Nat.reduceEqDiff, Nat.reduceSub]
      refine hK _ _ ?_; clear hK hgd; clear K; try clear gd
      repeat (with_reducible first | refine W_skip ?_ | refine W_ret ?_ | refine W_exit ?_ | refine thenQ_normal ?_ | refine thenQ_exit ?_ | refine thenQ_ret ?_ | refine blockQ_normal ?_ | refine blockQ_ret ?_ | refine blockQ_same ?_ | refine blockQ_other rfl ?_)
      refine ⟨rfl, by simp only [↓reduceIte, go_sem, Nat.reduceLT, Nat.reduceEqDiff, Nat.reduceSub], by simp only [↓reduceIte, go_sem, Nat.reduceLT, Nat.reduceEqDiff, Nat.reduceSub], x.heap.size + 1, x.heap.size, by simp only [↓reduceIte, go_sem, Nat.reduceLT, Nat.reduceEqDiff, Nat.reduceSub], by simp only [↓reduceIte, go_sem, Nat.reduceLT, Nat.reduceEqDiff, Nat.reduceSub], by omega, by omega, hsx, ?_, (hk2.block _ (by rw [hs1]; simp) (by omega)).trans hx1, hx2⟩
      exact Keep.to_ext (Keep.to_ext (hEx.trans hE2) rfl (fun b hb => by omega) hk1) rfl (fun b hb => by omega) hk2
  · rintro σ ds A ⟨rfl, hs0, hs1, b6, b7, hs6, hs7, hne, hb6, hb7, hE, hc6, hc7⟩
    have hl6 := (Array.getElem?_eq_some_iff.1 hc6).1
    have hl7 := (Array.getElem?_eq_some_iff.1 hc7).1
    repeat (with_reducible first | refine W_seq ?_ | refine W_block ?_ | refine W_skip ?_ | refine W_ret ?_ | refine W_exit ?_ | refine thenQ_normal ?_ | refine thenQ_exit ?_ | refine thenQ_ret ?_ | refine blockQ_normal ?_ | refine blockQ_ret ?_ | refine blockQ_same ?_ | refine blockQ_other rfl ?_)
    refine W_reg (by rfl) ?_; intro gd K hgd hK
    try simp (disch := first | omega | assumption | rfl) only [↓reduceIte, go_sem, Nat.reduceLT, Nat.reduceEqDiff, Nat.reduceSub, hs0, hs1]
    refine Fn.mono (down_ok hT hs hr hn hlen hE) ?_
    rintro _ w3 ⟨hE3, cap, rfl, hit⟩
    try simp (disch := first | omega | assumption | rfl) only [↓reduceIte, go_sem, Nat.reduceLT, Nat.reduceEqDiff, Nat.reduceSub]
    refine hK _ _ ?_; clear hK hgd; clear K; try clear gd
    repeat (with_reducible first | refine W_seq ?_ | refine W_block ?_ | refine W_skip ?_ | refine W_ret ?_ | refine W_exit ?_ | refine thenQ_normal ?_ | refine thenQ_exit ?_ | refine thenQ_ret ?_ | refine blockQ_normal ?_ | refine blockQ_ret ?_ | refine blockQ_same ?_ | refine blockQ_other rfl ?_)
    generalize hd : dep s.names (foldN n) = d at *
    have hs3 := hE3.size
    refine W_range (g := 63) (cap := cap) (by simp only [↓reduceIte, go_sem, Nat.reduceLT, Nat.reduceEqDiff, Nat.reduceSub]) rfl (hit (fun b => b = b6 ∨ b = b7) (fun b hb => by omega)) (Keep.refl _ _) (Nat.le_refl _) (fun b hb => by omega)
      (fun x A args h => by rw [h]; rfl)
      (fun pre A => Ext w A ∧ A.heap[b6]? = some (.cells #[vi ((pre.length - 1 : Nat))] 3 (0, 0)) ∧ A.heap[b7]? = some (.cells #[ptrOf (s.nb (sfx (foldN n) (pre.length - 1)))] 52 (0, 0)))
      (fun _ _ _ => False) ?_ (fun _ _ _ _ h _ => h.elim) ?_ ?_ ?_ (fun _ _ _ _ _ _ _ h _ => h.elim)
    · rintro pre A B ⟨h1, h2, h3⟩ hk
      have ne1 : ¬ two w3.heap.size b6 := by unfold two; omega
      have ne2 : ¬ two w3.heap.size b7 := by unfold two; omega
      exact ⟨Keep.to_ext h1 rfl (fun b hb => by unfold two at hb; have := hE.size; omega) hk, (hk.block _ (Array.getElem?_eq_some_iff.1 h2).1 ne1).trans h2, (hk.block _ (Array.getElem?_eq_some_iff.1 h3).1 ne2).trans h3⟩
    · exact ⟨hE.trans hE3, (hE3.block _ hl6 (fun h => h)).trans hc6, by rw [List.length_nil, sfx_zero]; exact (hE3.block _ hl7 (fun h => h)).trans hc7⟩
    · rintro lp pre x suf A1 args hxs hszA ⟨hEA, hc6', hc7'⟩ rfl
      obtain rfl := range_mid hxs
      repeat (first | (with_reducible first | refine W_seq ?_ | refine W_block ?_ | refine W_skip ?_ | refine W_ret ?_ | refine W_exit ?_ | refine thenQ_normal ?_ | refine thenQ_exit ?_ | refine thenQ_ret ?_ | refine blockQ_normal ?_ | refine blockQ_ret ?_ | refine blockQ_same ?_ | refine blockQ_other rfl ?_) | (refine W_reg (by rfl) ?_; intro gd K hgd hK; simp (disch := first | omega | assumption | rfl) only [↓reduceIte, go_sem, Nat.reduceLT, Nat.reduceEqDiff, Nat.reduceSub, ptrOf]; refine hK _ _ ?_; clear hK hgd; clear K gd))
      refine ⟨rfl, KeepB.refl _ _ _, fun A2 hA2 => ?_⟩
      have ne1 : ¬ two w3.heap.size b6 := by unfold two; omega
      have ne2 : ¬ two w3.heap.size b7 := by unfold two; omega
      have hc6 := (hA2.block _ (Array.getElem?_eq_some_iff.1 hc6').1 ne1).trans hc6'
      have hc7 := (hA2.block _ (Array.getElem?_eq_some_iff.1 hc7').1 ne2).trans hc7'
      have hE2' : Ext w A2 := Keep.to_ext hEA rfl (fun b hb => by unfold two at hb; have := hE.size; omega) hA2
      have hl62 := (Array.getElem?_eq_some_iff.1 hc6).1
      have hl72 := (Array.getElem?_eq_some_iff.1 hc7).1
      repeat (with_reducible first | refine W_seq ?_ | refine W_block ?_ | refine W_skip ?_ | refine W_ret ?_ | refine W_exit ?_ | refine thenQ_normal ?_ | refine thenQ_exit ?_ | refine thenQ_ret ?_ | refine blockQ_normal ?_ | refine blockQ_ret ?_ | refine blockQ_same ?_ | refine blockQ_other rfl ?_)
      refine W_reg (by rfl) ?_; intro gd K hgd hK
      try simp (disch := first | omega | assumption | rfl) only [↓reduceIte, go_sem, Nat.reduceLT, Nat.reduceEqDiff, Nat.reduceSub, hs6, hs7, ptrOf]
      refine st_one rfl rfl rfl hc6 (by simp) (by simp) ?_
      intro x1 hz1 hx1 hk1
      try simp (disch := first | omega | assumption | rfl) only [↓reduceIte, go_sem, Nat.reduceLT, Nat.reduceEqDiff, Nat.reduceSub, hs6, hs7, ptrOf]
      refine st_one rfl rfl rfl ((hk1.block _ hl72 (by omega)).trans hc7) (by simp) (by simp) ?_
      intro x2 hz2 hx2 hk2
      refine hK _ _ ?_; clear hK hgd; clear K; try clear gd
      repeat (with_reducible first | refine W_seq ?_ | refine W_block ?_ | refine W_skip ?_ | refine W_ret ?_ | refine W_exit ?_ | refine thenQ_normal ?_ | refine thenQ_exit ?_ | refine thenQ_ret ?_ | refine blockQ_normal ?_ | refine blockQ_ret ?_ | refine blockQ_same ?_ | refine blockQ_other rfl ?_)
      have e : (pre ++ [pre.length]).length - 1 = pre.length := by simp
      refine ⟨⟨Keep.to_ext (Keep.to_ext hE2' rfl (fun b hb => by omega) hk1) rfl (fun b hb => by omega) hk2, ?_, ?_⟩, (hk1.toB (by have := hA2.size; omega) (fun i _ h => .inl h)).trans (hk2.toB (by have := hA2.size; omega) (fun i _ h => .inr h))⟩
      · rw [e]; exact (hk2.block _ (by omega) (by omega)).trans hx1
      · rw [e]; exact hx2
    · rintro w4 hsz4 ⟨hE4, hc6, hc7⟩ hD
      rw [List.length_range, Nat.add_sub_cancel] at hc6 hc7
      repeat (with_reducible first | refine W_seq ?_ | refine W_block ?_ | refine W_skip ?_ | refine W_ret ?_ | refine W_exit ?_ | refine thenQ_normal ?_ | refine thenQ_exit ?_ | refine thenQ_ret ?_ | refine blockQ_normal ?_ | refine blockQ_ret ?_ | refine blockQ_same ?_ | refine blockQ_other rfl ?_)
      refine W_drw (fun _ => false) [(0, true), (1, true), (2, true), (3, true)] NoS mixed (by kernel_rfl) ?_; intro gd K x hgd hx hxe hK; clear hxe
      have hc6' : cellO x (some ⟨b6, 0, Option.none⟩) = some (vi d) := by
        show x.cell? _ = _
        rw [cell_of ((hx.block _ (Array.getElem?_eq_some_iff.1 hc6).1 (fun h => h)).trans hc6)]; rfl
      have hc7' : cellO x (some ⟨b7, 0, Option.none⟩) = some (ptrOf (s.nb (sfx (foldN n) d))) := by
        show x.cell? _ = _
        rw [cell_of ((hx.block _ (Array.getElem?_eq_some_iff.1 hc7).1 (fun h => h)).trans hc7)]; rfl
      simp (disch := first | omega | assumption | rfl) only [↓reduceIte, go_sem, Nat.reduceLT, Nat.reduceEqDiff, Nat.reduceSub, hs6, hs7, ptrOf] at hc6' hc7' ⊢
      simp (disch := first | omega | assumption | rfl) only [↓reduceIte, go_sem, Nat.reduceLT, Nat.reduceEqDiff, Nat.reduceSub, hs6, hs7, hc6', hc7']
      refine hK _ _ ?_; clear hK hgd; clear K; try clear gd
      repeat (with_reducible first | refine W_seq ?_ | refine W_block ?_ | refine W_skip ?_ | refine W_ret ?_ | refine W_exit ?_ | refine thenQ_normal ?_ | refine thenQ_exit ?_ | refine thenQ_ret ?_ | refine blockQ_normal ?_ | refine blockQ_ret ?_ | refine blockQ_same ?_ | refine blockQ_other rfl ?_)
      refine ret_mark2 (by simp) rfl Try.ntmps31 (by simp only [↓reduceIte, go_sem, Nat.reduceLT, Nat.reduceEqDiff, Nat.reduceSub]; rfl) (by simp only [↓reduceIte, go_sem, Nat.reduceLT, Nat.reduceEqDiff, Nat.reduceSub]; rfl) ((hx.block _ (Array.getElem?_eq_some_iff.1 hD).1 (fun h => h)).trans hD) ?_
      intro w5 hk5 _
      exact ⟨rfl, Keep.to_ext (hE4.trans hx) rfl (fun b hb => by have := hE.size; omega) hk5⟩
end Go.Proofs.Ytciadbhnodgpgaa.T_int
