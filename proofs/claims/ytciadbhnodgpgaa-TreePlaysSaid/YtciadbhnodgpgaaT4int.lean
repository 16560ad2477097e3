/-
  The contracts of package tree: what is right below a name; all names; at elements of type int.
  Conditions: none.
-/
import Derived.Test.YtciadbhnodgpgaaT3int
import Derived.Test.YtciadbhnodgpgaaM1int
import Derived.Test.YtciadbhnodgpgaaM3
set_option linter.unusedVariables false
set_option linter.unusedSimpArgs false
set_option linter.defProp false
namespace Go.Proofs.Ytciadbhnodgpgaa.T_int
open Go Go.Proofs.Ytciadbhnodgpgaa
set_option maxRecDepth 10000

/-- names in small letters, not too many, each of labels that are texts -/
structure Small (s : TS) : Prop where
  fold : ∀ g ∈ s.names, foldN g = g
  lb : ∀ g ∈ s.names, LB g
  many : s.names.length ≤ 1000000000

theorem kidsOf_nodup {names : List Nm} (h : names.Nodup) (f : Nm) : (kidsOf names f).Nodup := by
  unfold kidsOf
  rw [List.nodup_iff_pairwise_ne] at h ⊢
  rw [List.pairwise_filterMap]
  refine h.imp (fun {a b} hab x hx y hy e => ?_)
  subst e
  apply hab
  cases a with
  | nil => cases hx
  | cons p t =>
    cases b with
    | nil => cases hy
    | cons q t' =>
      simp only at hx hy
      split at hx
      · split at hy
        · cases hx; cases hy; rename_i h1 h2; rw [h1, h2]
        · cases hy
      · cases hx

theorem kidCells_keys (s : TS) (f : Nm) : (kidCells s f).map (·.1) = kidsOf s.names f := by
  unfold kidCells; rw [List.map_map]; simp [Function.comp_def]

theorem labels_ok {w : World} {tb : Nat} {s : TS} {f : Nm} (hT : TAt w tb s) (hs : TOk s) (hS : Small s) (hf : f ∈ s.names) :
    Fn Try.prog 40 #[ptrOf (s.nb f)] w (fun v w' => RowB w.heap.size w' v ((sortK (kidsOf s.names f)).map vs) ∧ Ext w w') := by
  have hc : cellO w (some ⟨s.nb f, 0, Option.none⟩) = some (.map (some (s.mb f))) := by
    show w.cell? _ = _
    rw [cell_of (hT.node _ hf)]; rfl
  have hnd := kidsOf_nodup hs.nd f
  have hkl : (kidsOf s.names f).length ≤ s.names.length := by unfold kidsOf; exact List.length_filterMap_le _ _
  have hmany := hS.many
  refine enter Try.func40 Try.ntmps40 rfl rfl ?_
  repeat (with_reducible first | refine W_seq ?_ | refine W_block ?_ | refine W_skip ?_ | refine W_ret ?_ | refine W_exit ?_ | refine thenQ_normal ?_ | refine thenQ_exit ?_ | refine thenQ_ret ?_ | refine blockQ_normal ?_ | refine blockQ_ret ?_ | refine blockQ_same ?_ | refine blockQ_other rfl ?_)
  refine W_reg (by rfl) ?_; intro gd K hgd hK; simp (disch := first | omega | assumption | rfl) only [↓reduceIte, go_sem, Nat.reduceLT, Nat.reduceEqDiff, Nat.reduceSub]; refine hK _ _ ?_; clear hK hgd; clear K gd
  repeat (with_reducible first | refine W_seq ?_ | refine W_block ?_ | refine W_skip ?_ | refine W_ret ?_ | refine W_exit ?_ | refine thenQ_normal ?_ | refine thenQ_exit ?_ | refine thenQ_ret ?_ | refine blockQ_normal ?_ | refine blockQ_ret ?_ | refine blockQ_same ?_ | refine blockQ_other rfl ?_)
  refine W_reg (by rfl) ?_; intro gd K hgd hK
  try simp (disch := first | omega | assumption | rfl) only [↓reduceIte, go_sem, Nat.reduceLT, Nat.reduceEqDiff, Nat.reduceSub, ptrOf, hc]
  refine Fn.mono (Keys_ok (hT.map f hf) (by rw [kidCells_keys]; exact hnd)) ?_
  rintro _ w1 ⟨hE1, cap, rfl, hit⟩
  try simp (disch := first | omega | assumption | rfl) only [↓reduceIte, go_sem, Nat.reduceLT, Nat.reduceEqDiff, Nat.reduceSub]
  refine Fn.mono (SortedFunc_ok (own := 1) (by rfl) (fun n0 C h1 h2 => hit n0 C h1 h2) ?_ ?_) ?_
  · rintro pre x ⟨h1, h2, h3, h4⟩
    rw [kidCells_keys] at h4
    have := nodup_len h3 h4
    omega
  · intro xs hp
    unfold fullK at hp
    rw [kidCells_keys] at hp
    refine ⟨by rw [hp.length_eq]; omega, fun x hx => ?_⟩
    have hx' := mem_kidsOf.1 (hp.mem_iff.1 hx)
    refine ⟨?_, hS.lb _ hx' _ (List.mem_cons_self ..)⟩
    have := hS.fold _ hx'
    simp only [foldN, List.map_cons, List.cons.injEq] at this
    exact this.1
  rintro v w2 ⟨hE2, xs, hp, hrow⟩
  try simp (disch := first | omega | assumption | rfl) only [↓reduceIte, go_sem, Nat.reduceLT, Nat.reduceEqDiff, Nat.reduceSub]
  refine hK _ _ ?_; clear hK hgd; clear K; try clear gd
  repeat (with_reducible first | refine W_seq ?_ | refine W_block ?_ | refine W_skip ?_ | refine W_ret ?_ | refine W_exit ?_ | refine thenQ_normal ?_ | refine thenQ_exit ?_ | refine thenQ_ret ?_ | refine blockQ_normal ?_ | refine blockQ_ret ?_ | refine blockQ_same ?_ | refine blockQ_other rfl ?_)
  refine ret_one (by simp) rfl Try.ntmps40 (by simp only [↓reduceIte, go_sem, Nat.reduceLT, Nat.reduceEqDiff, Nat.reduceSub]; rfl) ?_
  unfold fullK at hp
  rw [kidCells_keys] at hp
  refine ⟨?_, hE1.trans hE2⟩
  rw [← sortK_congr hp]; exact hrow.mono hE1.size

theorem Kids_ok {w : World} {tb : Nat} {s : TS} {n : Nm} {nv : Value} (hT : TAt w tb s) (hs : TOk s) (hS : Small s) (hr : Row w nv (n.map vs)) (hn : LB n) (hlen : n.length ≤ 9000000000000000000) :
    Fn Try.prog 18 #[ptrOf tb, nv] w (fun v w' => Row w' v ((sortK (kidsOf s.names (foldN n))).map vs) ∧ Ext w w') := by
  have hr0 := hr
  obtain ⟨a, ca, rfl, hca, hla⟩ := hr
  simp only [List.length_map] at *
  have hdl := dep_le s.names (foldN n)
  have hfull := full_in hs (f := foldN n)
  rw [foldN_len] at hdl hfull
  refine enter Try.func18 Try.ntmps18 rfl rfl ?_
  repeat (with_reducible first | refine W_seq ?_ | refine W_block ?_ | refine W_skip ?_ | refine W_ret ?_ | refine W_exit ?_ | refine thenQ_normal ?_ | refine thenQ_exit ?_ | refine thenQ_ret ?_ | refine blockQ_normal ?_ | refine blockQ_ret ?_ | refine blockQ_same ?_ | refine blockQ_other rfl ?_)
  refine W_reg (by rfl) ?_; intro gd K hgd hK; simp (disch := first | omega | assumption | rfl) only [↓reduceIte, go_sem, Nat.reduceLT, Nat.reduceEqDiff, Nat.reduceSub]; refine hK _ _ ?_; clear hK hgd; clear K gd
  repeat (with_reducible first | refine W_seq ?_ | refine W_block ?_ | refine W_skip ?_ | refine W_ret ?_ | refine W_exit ?_ | refine thenQ_normal ?_ | refine thenQ_exit ?_ | refine thenQ_ret ?_ | refine blockQ_normal ?_ | refine blockQ_ret ?_ | refine blockQ_same ?_ | refine blockQ_other rfl ?_)
  refine W_reg (by rfl) ?_; intro gd K hgd hK
  try simp (disch := first | omega | assumption | rfl) only [↓reduceIte, go_sem, Nat.reduceLT, Nat.reduceEqDiff, Nat.reduceSub]
  refine Fn.mono (deepest_ok hT hs hr0 hn (by omega)) ?_
  rintro _ w1 ⟨rfl, hE1⟩
  try simp (disch := first | omega | assumption | rfl) only [↓reduceIte, go_sem, Nat.reduceLT, Nat.reduceEqDiff, Nat.reduceSub]
  refine hK _ _ ?_; clear hK hgd; clear K; try clear gd
  generalize hd : dep s.names (foldN n) = d at *
  repeat (with_reducible first | refine W_seq ?_ | refine W_block ?_ | refine W_skip ?_ | refine W_ret ?_ | refine W_exit ?_ | refine thenQ_normal ?_ | refine thenQ_exit ?_ | refine thenQ_ret ?_ | refine blockQ_normal ?_ | refine blockQ_ret ?_ | refine blockQ_same ?_ | refine blockQ_other rfl ?_)
  refine W_reg (by rfl) ?_; intro gd K hgd hK; simp (disch := first | omega | assumption | rfl) only [↓reduceIte, go_sem, Nat.reduceLT, Nat.reduceEqDiff, Nat.reduceSub]; refine hK _ _ ?_; clear hK hgd; clear K gd
  repeat (with_reducible first | refine W_seq ?_ | refine W_block ?_ | refine W_skip ?_ | refine W_ret ?_ | refine W_exit ?_ | refine thenQ_normal ?_ | refine thenQ_exit ?_ | refine thenQ_ret ?_ | refine blockQ_normal ?_ | refine blockQ_ret ?_ | refine blockQ_same ?_ | refine blockQ_other rfl ?_)
  refine W_cond (by simp only [↓reduceIte, go_sem, Nat.reduceLT, Nat.reduceEqDiff, Nat.reduceSub]; rfl) ?_ ?_
  · intro hlt
    simp only [decide_eq_true_eq] at hlt
    repeat (with_reducible first | refine W_seq ?_ | refine W_block ?_ | refine W_skip ?_ | refine W_ret ?_ | refine W_exit ?_ | refine thenQ_normal ?_ | refine thenQ_exit ?_ | refine thenQ_ret ?_ | refine blockQ_normal ?_ | refine blockQ_ret ?_ | refine blockQ_same ?_ | refine blockQ_other rfl ?_)
    refine W_reg (by rfl) ?_; intro gd K hgd hK; simp (disch := first | omega | assumption | rfl) only [↓reduceIte, go_sem, Nat.reduceLT, Nat.reduceEqDiff, Nat.reduceSub]; refine hK _ _ ?_; clear hK hgd; clear K gd
    repeat (with_reducible first | refine W_seq ?_ | refine W_block ?_ | refine W_skip ?_ | refine W_ret ?_ | refine W_exit ?_ | refine thenQ_normal ?_ | refine thenQ_exit ?_ | refine thenQ_ret ?_ | refine blockQ_normal ?_ | refine blockQ_ret ?_ | refine blockQ_same ?_ | refine blockQ_other rfl ?_)
    refine ret_one (by simp) rfl Try.ntmps18 (by simp only [↓reduceIte, go_sem, Nat.reduceLT, Nat.reduceEqDiff, Nat.reduceSub]; rfl) ?_
    have hk : kidsOf s.names (foldN n) = [] := by
      rw [List.eq_nil_iff_forall_not_mem]
      intro k hk
      have := hs.tail _ _ (mem_kidsOf.1 hk)
      have := hfull.1 this
      omega
    rw [hk, show sortK [] = [] from by simp [sortK]]
    exact ⟨⟨Option.none, 0, rfl, Nat.le_refl _, fun j h => by simp at h⟩, hE1⟩
  · intro hge
    simp only [decide_eq_false_iff_not] at hge
    have hdn : d = n.length := by omega
    subst hdn
    have hin := hfull.2 rfl
    have hsf : sfx (foldN n) n.length = foldN n := by rw [← foldN_len n]; exact sfx_full _
    rw [hsf]
    repeat (with_reducible first | refine W_seq ?_ | refine W_block ?_ | refine W_skip ?_ | refine W_ret ?_ | refine W_exit ?_ | refine thenQ_normal ?_ | refine thenQ_exit ?_ | refine thenQ_ret ?_ | refine blockQ_normal ?_ | refine blockQ_ret ?_ | refine blockQ_same ?_ | refine blockQ_other rfl ?_)
    refine W_reg (by rfl) ?_; intro gd K hgd hK
    try simp (disch := first | omega | assumption | rfl) only [↓reduceIte, go_sem, Nat.reduceLT, Nat.reduceEqDiff, Nat.reduceSub]
    refine Fn.mono (labels_ok (hT.ext hE1) hs hS hin) ?_
    rintro v w2 ⟨hrow, hE2⟩
    try simp (disch := first | omega | assumption | rfl) only [↓reduceIte, go_sem, Nat.reduceLT, Nat.reduceEqDiff, Nat.reduceSub]
    refine Fn.mono (ClipS_ok hrow.1) ?_
    rintro u w3 ⟨hrow3, hE3⟩
    try simp (disch := first | omega | assumption | rfl) only [↓reduceIte, go_sem, Nat.reduceLT, Nat.reduceEqDiff, Nat.reduceSub]
    refine hK _ _ ?_; clear hK hgd; clear K; try clear gd
    repeat (with_reducible first | refine W_seq ?_ | refine W_block ?_ | refine W_skip ?_ | refine W_ret ?_ | refine W_exit ?_ | refine thenQ_normal ?_ | refine thenQ_exit ?_ | refine thenQ_ret ?_ | refine blockQ_normal ?_ | refine blockQ_ret ?_ | refine blockQ_same ?_ | refine blockQ_other rfl ?_)
    refine ret_one (by simp) rfl Try.ntmps18 (by simp only [↓reduceIte, go_sem, Nat.reduceLT, Nat.reduceEqDiff, Nat.reduceSub]; rfl) ?_
    exact ⟨hrow3, (hE1.trans hE2).trans hE3⟩
end Go.Proofs.Ytciadbhnodgpgaa.T_int
