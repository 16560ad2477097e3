/-
  Texts of a proof, joined: E13, F6, F7, F8, F9, G0.
  Conditions: none.
-/
import Derived.Test.YtopbbjdembnfdaaGreatJ09
import Derived.Test.YtopbbjdembnfdaaGreatJ08
import Derived.Test.YtopbbjdembnfdaaGreatJ03
set_option linter.unusedVariables false
set_option linter.unusedSimpArgs false
set_option linter.defProp false
set_option linter.unnecessarySimpa false
namespace Go.Proofs.YtopbbjdembnfdaaGreat
open Go
set_option maxRecDepth 10000

def goL (o : Nm) (R : List RecL) (q : Nm) : List Nm → Option ResL
 | [] => Option.none
 | n :: l => if cutP o R n = true then some (referL R n) else if n.length = q.length then Option.none else match renamedL R q n with
  | some r => some r
  | Option.none => goL o R q l
def lookL (o : Nm) (R : List RecL) (q : Nm) (t : Int) : ResL :=
 if under q o = false then ⟨7, [], [], false, []⟩ else match goL o R q (downs o q) with
 | some r => r
 | Option.none => if existsL o R q = true then atL R q t false else match sourceL o R q with
  | some s => atL R s t true
  | Option.none => ⟨3, [], [], false, []⟩

def passL (o : Nm) (R : List RecL) (q n : Nm) : Prop := cutP o R n = false ∧ n.length ≠ q.length ∧ renamedL R q n = Option.none
theorem goL_pass {o : Nm} {R : List RecL} {q : Nm} : ∀ {pre l : List Nm}, (∀ n ∈ pre, passL o R q n) → goL o R q (pre ++ l) = goL o R q l
 | [], _, _ => rfl
 | n :: pre, l, h => by
  obtain ⟨h1, h2, h3⟩ := h n (List.mem_cons_self ..)
  rw [List.cons_append]
  simp only [goL]
  rw [h1, if_neg Bool.false_ne_true, if_neg h2, h3]
  exact goL_pass (fun m hm => h m (List.mem_cons_of_mem _ hm))
theorem where_out {o : Nm} {R : List RecL} {n : Nm} : whereL o R n = 0 ↔ under n o = false := by
 unfold whereL
 by_cases h : under n o = true
 ·rw [if_pos h, h]
  constructor
  ·intro h2
   split at h2
   ·cases h2
   ·split at h2 <;> cases h2
  ·intro h2; cases h2
 ·rw [if_neg h]
  simp at h
  simp [h]
theorem under_drop {q : Nm} {k : Nat} (hk : k ≤ q.length) : under q (q.drop k) = true := by
 unfold under
 rw [Bool.and_eq_true, decide_eq_true_eq, decide_eq_true_eq]
 refine ⟨by simp, ?_⟩
 rw [List.length_drop, show q.length - (q.length - k) = k from by omega]
theorem NmM.drop {n : Nm} (h : NmM n) (k : Nat) : NmM (n.drop k) := ⟨fun l hl => h.lb l (List.drop_subset _ _ hl), by have := h.len; simp; omega⟩
set_option maxHeartbeats 1000000 in
theorem Zone_ok {w0 w : World} {ov lv qv : Value} {o q : Nm} {R : List RecL} {t : Int} (hz : ZnAt w0 w ov lv o R) (hR : GoodR R) (hq : Row w qv (q.map vs)) (mq : NmM q) :
  Fn Tryz.prog 18 #[.agg #[ov, lv], qv, vi t] w (fun v w' => Ext w w' ∧ ∃ cs, v = .agg cs.toArray ∧ ResB w0 w.heap.size w' cs (lookL o R q t)) := by
 obtain ⟨ao, co, hov, _⟩ := id hz.org
 obtain ⟨al, cl, hlv, _⟩ := hz.recs.open
 obtain ⟨aq, cq, hqv, _⟩ := id hq
 rw [List.length_map] at hov hqv
 rw [hov, hlv, hqv]
 refine enter Tryz.func18 Tryz.ntmps18 rfl rfl ?_
 repeat refine c_r ?_
 refine rg0 ?_
 repeat refine c_r ?_
 rw [← hov, ← hlv, ← hqv]
 simp only [new_size]
 refine W_alloc3 ?_
 intro w1 hE1 hs1 hA hB hC
 have d2 := sv_cells (n := 2) (l := [ov, lv]) hA rfl
 have dq : cellO w1 (some ⟨w.heap.size + 1, 0, Option.none⟩) = some qv := cellO_at hB rfl
 have hz1 := hz.ext hE1
 have ql := mq.len
 have hqo : (q.map vs).length = q.length := List.length_map ..
 refine rq ?_; intro gd K hgd hK
 try simp (disch := first | omega | assumption | rfl) only [↓reduceIte, go_sem, Nat.reduceLT, Nat.reduceEqDiff, Nat.reduceSub, d2, dq]
 refine Fn.mono (Where_ok hz1 (hq.ext hE1) mq.s) ?_
 rintro _ w2 ⟨rfl, hE2⟩
 try simp (disch := first | omega | assumption | rfl) only [↓reduceIte, go_sem, Nat.reduceLT, Nat.reduceEqDiff, Nat.reduceSub]
 refine hK _ _ ?_; clear hK hgd; clear K; try clear gd
 have hEw2 := hE1.trans hE2
 have hA2 := hE2.at hA
 have hB2 := hE2.at hB
 have hC2 := hE2.at hC
 have s2 := hE2.size
 -- a result into its variable, and the end
 repeat refine c_r ?_
 refine wc0 ?_ ?_
 ·intro hw
  simp only [decide_eq_true_eq] at hw
  have hu := where_out.1 hw
  have hlk : lookL o R q t = ⟨7, [], [], false, []⟩ := by unfold lookL; rw [if_pos hu]
  repeat refine c_r ?_
  refine rq ?_; intro gd K hgd hK
  try simp (disch := first | omega | assumption | rfl) only [↓reduceIte, go_sem, Nat.reduceLT, Nat.reduceEqDiff, Nat.reduceSub]
  refine ⟨by kernel_rfl, ?_⟩
  rw [show bdV Tryz.prog 31 [(0, vi 7)] = some (.agg #[vi 7, .slice Option.none 0 0, .slice Option.none 0 0, .bool false, .slice Option.none 0 0]) from by kernel_rfl]
  try simp (disch := first | omega | assumption | rfl) only [↓reduceIte, go_sem, Nat.reduceLT, Nat.reduceEqDiff, Nat.reduceSub]
  refine sv_all (P := Tryz.prog) (t := 31) (l := [vi 7, .slice Option.none 0 0, .slice Option.none 0 0, .bool false, .slice Option.none 0 0]) hC2 rfl (fun v h => by simp at h; rcases h with rfl | rfl | rfl | rfl | rfl <;> rfl) rfl rfl ?_
  intro z hz' hbz hkz
  try simp (disch := first | omega | assumption | rfl) only [↓reduceIte, go_sem, Nat.reduceLT, Nat.reduceEqDiff, Nat.reduceSub]
  refine hK _ _ ?_; clear hK hgd; clear K; try clear gd
  repeat refine c_r ?_
  refine ret_any (.inr rfl) Tryz.ntmps18 rfl (res_agg (x := ⟨w.heap.size + 1 + 1, 0, Option.none⟩) (k := 5) (vq0) rfl rfl (sv_cells hbz rfl) res_nil) ?_
  exact ⟨Keep.to_ext hEw2 rfl (fun b hb => by omega) hkz, _, rfl, by rw [hlk]; exact ⟨_, _, _, rfl, Rows.nil _ _ _, BlkB.nil, .inr (nil_row _), Rows.nil _ _ _, BlkB.nil⟩⟩
 intro hw
 simp only [decide_eq_false_iff_not] at hw
 have hu : under q o = true := by
  cases h : under q o with
  | true => rfl
  | false => exact absurd (where_out.2 h) hw
 have d2' := sv_cells (n := 2) (l := [ov, lv]) hA2 rfl
 have dq' : cellO w2 (some ⟨w.heap.size + 1, 0, Option.none⟩) = some qv := cellO_at hB2 rfl
 repeat refine c_r ?_
 refine rq ?_; intro gd K hgd hK
 try simp (disch := first | omega | assumption | rfl) only [↓reduceIte, go_sem, Nat.reduceLT, Nat.reduceEqDiff, Nat.reduceSub, d2', dq']
 refine Fn.mono (Down_ok ⟨_, _, _, hqv⟩) ?_
 rintro _ w3 ⟨rfl, hE3, hs3, hbz, hbn⟩
 try simp (disch := first | omega | assumption | rfl) only [↓reduceIte, go_sem, Nat.reduceLT, Nat.reduceEqDiff, Nat.reduceSub]
 refine hK _ _ ?_; clear hK hgd; clear K; try clear gd
 have hEw3 := hEw2.trans hE3
 have hz3 := hz.ext hEw3
 have hq3 := hq.ext hEw3
 have hA3 := hE3.at hA2
 have hB3 := hE3.at hB2
 have hC3 := hE3.at hC2
 obtain ⟨D, hD⟩ : ∃ D, w3.heap.size = D := ⟨_, rfl⟩
 have hdm : ∀ {x}, x ∈ downs o q → ∃ k, k ≤ q.length ∧ x = q.drop k := fun {x} hx => by
  unfold downs at hx
  split at hx
  ·obtain ⟨i, hi, h⟩ := downF_mem.1 hx
   exact ⟨i, by omega, h⟩
  ·cases hx
 repeat refine c_r ?_
 refine W_mono (Q := fun e σ' ds' v' => ((e = .normal ∨ e = .exit 0) ∧ ds' = [{ target := .collected w3.heap.size, args := #[] }] ∧ v'.heap[w3.heap.size]? = some (.deferred (some [])) ∧ σ' 3 = .pointer (some ⟨w.heap.size, 0, Option.none⟩) ∧ σ' 4 = .pointer (some ⟨w.heap.size + 1, 0, Option.none⟩) ∧ σ' 6 = .pointer (some ⟨w.heap.size + 1 + 1, 0, Option.none⟩) ∧ σ' 2 = vi t ∧ Ext w3 v' ∧ goL o R q (downs o q) = Option.none) ∨
   (e = .ret ∧ ds' = [{ target := .collected w3.heap.size, args := #[] }] ∧ v'.heap[w3.heap.size]? = some (.deferred (some [])) ∧ σ' 6 = .pointer (some ⟨w.heap.size + 1 + 1, 0, Option.none⟩) ∧ Ext w v' ∧ ∃ r cs, goL o R q (downs o q) = some r ∧ v'.heap[w.heap.size + 1 + 1]? = some (.cells cs.toArray 31 (0, 0)) ∧ ResB w0 (w3.heap.size + 2) v' cs r)) ?_ ?_
 ·refine W_range (g := 125) (cap := #[.pointer (some ⟨w2.heap.size + 1, 0, Option.none⟩), .pointer (some ⟨w2.heap.size, 0, Option.none⟩)]) (vq0) rfl (downIt (C := fun b => b = w.heap.size + 1 + 1) hbn hbz hq hz3.org (by omega) (by omega) hz.ol (by omega)) (Keep.refl _ _) (Nat.le_refl _) (fun b hb => by omega)
   (fun x B args h => by obtain ⟨v, h, _⟩ := h; rw [h]; rfl)
   (fun pre B => Ext w3 B ∧ ∀ x ∈ pre, passL o R q x)
   (fun c pre B => (c = .exit 0 ∧ Ext w3 B ∧ ∃ pre' x, pre = pre' ++ [x] ∧ (∀ y ∈ pre', passL o R q y) ∧ cutP o R x = false ∧ x.length = q.length) ∨
    (c = .ret ∧ Ext w B ∧ ∃ pre' x r cs, pre = pre' ++ [x] ∧ (∀ y ∈ pre', passL o R q y) ∧ (∀ l, goL o R q (x :: l) = some r) ∧ B.heap[w.heap.size + 1 + 1]? = some (.cells cs.toArray 31 (0, 0)) ∧ ResB w0 (w3.heap.size + 2) B cs r)) ?_ ?_ ?_ ?_ ?_ ?_
  ·rintro pre B B' ⟨hEB, hp⟩ hk
   exact ⟨Keep.to_ext hEB rfl (fun b hb => by unfold two at hb; omega) hk, hp⟩
  ·rintro c pre B B' h hk
   rcases h with ⟨rfl, hEB, h⟩ | ⟨rfl, hEB, pre', x, r, cs, h1, h2, h3, h4, h5⟩
   ·exact .inl ⟨rfl, Keep.to_ext hEB rfl (fun b hb => by unfold two at hb; omega) hk, h⟩
   ·exact .inr ⟨rfl, Keep.to_ext hEB rfl (fun b hb => by unfold two at hb; omega) hk, pre', x, r, cs, h1, h2, h3, (hk.block _ (Array.getElem?_eq_some_iff.1 h4).1 (by unfold two; omega)).trans h4, h5.keep hk (fun b hb _ => by unfold two; omega)⟩
  ·exact ⟨Keep.refl _ _, fun x h => absurd h (by simp)⟩
  ·rintro lp pre x suf B args hxs hszB ⟨hEB, hp⟩ ⟨xv, rfl, hxr⟩
   obtain ⟨kx, hkx, hxk⟩ := hdm (x := x) (by rw [hxs]; simp)
   have mx : NmM x := hxk ▸ mq.drop kx
   have hux : under q x = true := by rw [hxk]; exact under_drop hkx
   have hxl := mx.len
   obtain ⟨ax, cx, hxv, _⟩ := id hxr
   rw [List.length_map] at hxv
   have hol := hz.ol
   refine rq ?_; intro gd K hgd hK
   try simp (disch := first | omega | assumption | rfl) only [↓reduceIte, go_sem, Nat.reduceLT, Nat.reduceEqDiff, Nat.reduceSub]
   refine hK _ _ ?_; clear hK hgd; clear K; try clear gd
   refine thenQ_normal ?_
   refine ⟨rfl, KeepB.refl _ _ _, fun Y hY => ?_⟩
   have hEY : Ext w3 Y := Keep.to_ext hEB rfl (fun b hb => by unfold two at hb; omega) hY
   have hzY := hz3.ext hEY
   have p0 : cellO Y (some ⟨w.heap.size, 0, Option.none⟩) = some ov := cellO_at (hEY.at hA3) rfl
   have d2 := sv_cells (n := 2) (l := [ov, lv]) (hEY.at hA3) rfl
   have dq : cellO Y (some ⟨w.heap.size + 1, 0, Option.none⟩) = some qv := cellO_at (hEY.at hB3) rfl
   have hYs := hY.size
   have hxY : Row Y xv (x.map vs) := hxr.ext (hEw3.trans hEY)
   have hqY := hq3.ext hEY
   have hCY := hEY.at hC3
   rw [hov] at p0
   repeat refine c_r ?_
   refine W_mono (Q := fun e σ' ds' v' => e = .normal ∧ ds' = [] ∧ σ' 7 = xv ∧ σ' 3 = .pointer (some ⟨w.heap.size, 0, Option.none⟩) ∧ σ' 4 = .pointer (some ⟨w.heap.size + 1, 0, Option.none⟩) ∧ σ' 6 = .pointer (some ⟨w.heap.size + 1 + 1, 0, Option.none⟩) ∧ Ext Y v' ∧ σ' 31 = .bool (cutP o R x)) ?_ ?_
   ·by_cases hl : (o.length : Int) < (x.length : Int)
    ·refine rq ?_; intro gd K hgd hK
     have hg6 : ∀ n σ b, wantV gd n σ (some (6, b)) = boolIs (ev n σ (.tmp 27)) b := (fun n σ b => by rw [wantV_some, show gd 6 = some 27 from (by rw [hgd]; rfl)]; rfl)
     try simp (disch := first | omega | assumption | rfl) only [↓reduceIte, go_sem, Nat.reduceLT, Nat.reduceEqDiff, Nat.reduceSub, hxv, p0, d2, decide_eq_true hl, Nat.add_zero, ↓hg6]
     rw [← hxv]
     refine Fn.mono (Has_ok hzY hxY mx.s) ?_
     rintro _ Y2 ⟨rfl, hY2⟩
     try simp (disch := first | omega | assumption | rfl) only [↓reduceIte, go_sem, Nat.reduceLT, Nat.reduceEqDiff, Nat.reduceSub]
     refine hK _ _ ?_; clear hK hgd; clear K; try clear gd
     refine ⟨rfl, rfl, vq0, vq0, vq0, vq0, hY2, ?_⟩
     unfold cutP hasL
     rw [show decide (o.length < x.length) = true from decide_eq_true (by omega), Bool.true_and]
     simp only [↓reduceIte, go_sem, Nat.reduceLT, Nat.reduceEqDiff, Nat.reduceSub]
    ·refine rq ?_; intro gd K hgd hK
     have hg6 : ∀ n σ b, wantV gd n σ (some (6, b)) = boolIs (ev n σ (.tmp 27)) b := (fun n σ b => by rw [wantV_some, show gd 6 = some 27 from (by rw [hgd]; rfl)]; rfl)
     try simp (disch := first | omega | assumption | rfl) only [↓reduceIte, go_sem, Nat.reduceLT, Nat.reduceEqDiff, Nat.reduceSub, hxv, p0, decide_eq_false hl, Nat.add_zero, ↓hg6]
     rw [← hxv]
     refine hK _ _ ?_; clear hK hgd; clear K; try clear gd
     refine ⟨rfl, rfl, vq0, vq0, vq0, vq0, Keep.refl _ _, ?_⟩
     unfold cutP hasL
     rw [show decide (o.length < x.length) = false from decide_eq_false (by omega), Bool.false_and]
     simp only [↓reduceIte, go_sem, Nat.reduceLT, Nat.reduceEqDiff, Nat.reduceSub]
   rintro _ σ1 _ Y1 ⟨rfl, rfl, h7, h3, h4, h6, hY1, h31⟩
   have hEY1 := hEY.trans hY1
   have hY1s := hY1.size
   repeat refine c_r ?_
   refine W_cond (t := cutP o R x) ((vq1 h31)) ?_ ?_
   ·intro ht
    have d2' := cellsO_ext hY1 d2
    repeat refine c_r ?_
    refine rq ?_; intro gd K hgd hK
    try simp (disch := first | omega | assumption | rfl) only [↓reduceIte, go_sem, Nat.reduceLT, Nat.reduceEqDiff, Nat.reduceSub, h3, h7, d2']
    refine Fn.mono (Refer_ok (hzY.ext hY1) hR (hxY.ext hY1) mx.s) ?_
    rintro _ Y2 ⟨hY2, cs, rfl, hres⟩
    try simp (disch := first | omega | assumption | rfl) only [↓reduceIte, go_sem, Nat.reduceLT, Nat.reduceEqDiff, Nat.reduceSub, h6]
    have hY2s := hY2.size
    refine sv_all (P := Tryz.prog) (t := 31) (l := cs) (Ext.at (hY1.trans hY2) hCY) hres.cells.1 hres.cells.2 (by rw [hres.cells.1]; rfl) rfl ?_
    intro z hz' hbz2 hkz
    try simp (disch := first | omega | assumption | rfl) only [↓reduceIte, go_sem, Nat.reduceLT, Nat.reduceEqDiff, Nat.reduceSub]
    refine hK _ _ ?_; clear hK hgd; clear K; try clear gd
    repeat refine c_r ?_
    exact ⟨.inr ⟨rfl, Keep.to_ext (hEw3.trans (hEY1.trans hY2)) rfl (fun b hb => by omega) hkz, pre, x, referL R x, cs, rfl, hp, fun l => by simp only [goL]; rw [if_pos ht], hbz2, (hres.keep hkz (fun b hb _ => by omega)).mono (by omega)⟩, ((hY1.trans hY2).toB (by omega) (fun _ _ h => h.elim)).trans (hkz.toB (by omega) (fun i _ h => h))⟩
   intro ht
   have dq' := cellO_ext hY1 dq
   rw [hqv] at dq'
   repeat refine c_r ?_
   refine rg4 h7 h4 hxv dq' ?_
   repeat refine c_r ?_
   refine wc0 ?_ ?_
   ·intro hl
    simp only [decide_eq_true_eq] at hl
    repeat refine c_r ?_
    exact ⟨.inl ⟨rfl, hEY1, pre, x, rfl, hp, ht, by omega⟩, hY1.toB (by omega) (fun _ _ h => h.elim)⟩
   intro hl
   simp only [decide_eq_false_iff_not] at hl
   have d2' := cellsO_ext hY1 d2
   have dq'' := cellO_ext hY1 dq
   repeat refine c_r ?_
   refine rq ?_; intro gd K hgd hK
   try simp (disch := first | omega | assumption | rfl) only [↓reduceIte, go_sem, Nat.reduceLT, Nat.reduceEqDiff, Nat.reduceSub, h3, h4, h7, d2', dq'']
   refine Fn.mono (Renamed_ok (hzY.ext hY1) hR (hqY.ext hY1) (hxY.ext hY1) mq mx hux) ?_
   rintro _ Y2 ⟨hY2, cs, rfl, hres⟩
   try simp (disch := first | omega | assumption | rfl) only [↓reduceIte, go_sem, Nat.reduceLT, Nat.reduceEqDiff, Nat.reduceSub]
   have hB8 := new_block Y2 (.cells #[vi 0, .slice Option.none 0 0, .slice Option.none 0 0, .bool false, .slice Option.none 0 0] 31 (0, 0))
   have hE8 := Ext.alloc Y2 (.cells #[vi 0, .slice Option.none 0 0, .slice Option.none 0 0, .bool false, .slice Option.none 0 0] 31 (0, 0))
   have hs8 := new_size Y2 (.cells #[vi 0, .slice Option.none 0 0, .slice Option.none 0 0, .bool false, .slice Option.none 0 0] 31 (0, 0))
   revert hB8 hE8 hs8
   generalize Y2.alloc (.cells #[vi 0, .slice Option.none 0 0, .slice Option.none 0 0, .bool false, .slice Option.none 0 0] 31 (0, 0)) = Y3
   intro hB8 hE8 hs8
   refine sv_all (P := Tryz.prog) (t := 31) (l := cs) hB8 hres.cells.1 hres.cells.2 (by rw [hres.cells.1]; rfl) rfl ?_
   intro Y4 hs9 hB9 hk9
   try simp (disch := first | omega | assumption | rfl) only [↓reduceIte, go_sem, Nat.reduceLT, Nat.reduceEqDiff, Nat.reduceSub]
   refine hK _ _ ?_; clear hK hgd; clear K; try clear gd
   have hE24 : Ext Y2 Y4 := Keep.to_ext hE8 rfl (fun b hb => by omega) hk9
   have hY4 := hY2.trans hE24
   have hY4s := hY4.size
   have hres4 := hres.keep hE24 (fun b hb _ h => h)
   have d9 := sv_cells (n := 5) hB9 hres.cells.1.symm
   repeat refine c_r ?_
   refine rg0 ?_
   repeat refine c_r ?_
   refine W_cond (t := (renamedL R q x).isSome) (vq0) ?_ ?_
   ·intro hs
    obtain ⟨r, hr⟩ := Option.isSome_iff_exists.1 hs
    rw [hr] at hres4
    repeat refine c_r ?_
    refine rq ?_; intro gd K hgd hK
    try simp (disch := first | omega | assumption | rfl) only [↓reduceIte, go_sem, Nat.reduceLT, Nat.reduceEqDiff, Nat.reduceSub, d9, h6]
    refine sv_all (P := Tryz.prog) (t := 31) (l := cs) (Ext.at (hY1.trans hY4) hCY) hres.cells.1 hres.cells.2 (by rw [hres.cells.1]; rfl) rfl ?_
    intro z hz' hbz2 hkz
    try simp (disch := first | omega | assumption | rfl) only [↓reduceIte, go_sem, Nat.reduceLT, Nat.reduceEqDiff, Nat.reduceSub]
    refine hK _ _ ?_; clear hK hgd; clear K; try clear gd
    repeat refine c_r ?_
    exact ⟨.inr ⟨rfl, Keep.to_ext (hEw3.trans (hEY1.trans hY4)) rfl (fun b hb => by omega) hkz, pre, x, r, cs, rfl, hp, fun l => by simp only [goL]; rw [ht, if_neg Bool.false_ne_true, if_neg (by omega), hr], hbz2, (hres4.keep hkz (fun b hb _ => by omega)).mono (by omega)⟩, ((hY1.trans hY4).toB (by omega) (fun _ _ h => h.elim)).trans (hkz.toB (by omega) (fun i _ h => h))⟩
   ·intro hs
    have hnone : renamedL R q x = Option.none := by simpa using hs
    repeat refine c_r ?_
    refine ⟨⟨hEY1.trans hY4, fun y hy => ?_⟩, (hY1.trans hY4).toB (by omega) (fun _ _ h => h.elim)⟩
    rcases List.mem_append.1 hy with hy | hy
    ·exact hp y hy
    ·rw [List.mem_singleton.1 hy]; exact ⟨ht, by omega, hnone⟩
  ·intro B hszB ⟨hEB, hp⟩ hDB
   refine .inl ⟨.inl rfl, rfl, hDB, vq0, vq0, vq0, vq0, hEB, ?_⟩
   have := goL_pass (l := []) hp
   rw [List.append_nil] at this
   rw [this]; rfl
  ·rintro c pre x0 suf B hszB hxs h hDB
   rcases h with ⟨rfl, hEB, pre', x, hpre, h1, h2, h3⟩ | ⟨rfl, hEB, pre', x, r, cs, hpre, h1, h2, h3, h4⟩
   ·obtain ⟨rfl, h5⟩ := List.append_inj' hpre rfl
    have hx0 : x0 = x := by simpa using h5
    subst hx0
    refine W_exit ?_
    refine .inl ⟨.inr rfl, rfl, hDB, vq0, vq0, vq0, vq0, hEB, ?_⟩
    rw [hxs, goL_pass h1]
    simp only [goL]
    rw [h2, if_neg Bool.false_ne_true, if_pos h3]
   ·obtain ⟨rfl, h5⟩ := List.append_inj' hpre rfl
    have hx0 : x0 = x := by simpa using h5
    subst hx0
    refine W_ret ?_
    refine .inr ⟨rfl, rfl, hDB, vq0, hEB, r, cs, ?_, h3, h4⟩
    rw [hxs, goL_pass h1, h2]
 ·intro e σ1 ds1 v1 hcase
  rcases hcase with ⟨he, rfl, hDv, h3, h4, h6, h2, hEv, hgo⟩ | ⟨rfl, rfl, hDv, h6, hEv, r, cs, hgo, hbv, hres⟩
  ·refine blockQ_either he ?_
   have hlk : lookL o R q t = if existsL o R q = true then atL R q t false else match sourceL o R q with
     | some s => atL R s t true
     | Option.none => ⟨3, [], [], false, []⟩ := by
    unfold lookL
    rw [if_neg (by rw [hu]; decide), hgo]
   have hEwv := hEw3.trans hEv
   have hzv := hz3.ext hEv
   have hqv' := hq3.ext hEv
   have hCv := Ext.at hEv hC3
   have d2v := sv_cells (n := 2) (l := [ov, lv]) (Ext.at hEv hA3) rfl
   have dqv : cellO v1 (some ⟨w.heap.size + 1, 0, Option.none⟩) = some qv := cellO_at (Ext.at hEv hB3) rfl
   have hvs := hEv.size
   have hDlt : w3.heap.size < v1.heap.size := (Array.getElem?_eq_some_iff.1 hDv).1
   -- a result laid into its variable, and the end
   have fin : ∀ {Y z : World} {cs : List Value} {r : ResL} {σ' : Sto}, Ext v1 Y → ResB w0 v1.heap.size Y cs r → r = lookL o R q t → z.heap.size = Y.heap.size → z.heap[w.heap.size + 1 + 1]? = some (.cells cs.toArray 31 (0, 0)) → Keep (fun i => i = w.heap.size + 1 + 1) Y z → σ' 6 = .pointer (some ⟨w.heap.size + 1 + 1, 0, Option.none⟩) →
     z.heap[w3.heap.size]? = some (.deferred (some [])) ∧ ∀ Z, Keep (fun b => b = w3.heap.size) z Z → Z.heap.size = z.heap.size → ∃ rs, resV Tryz.prog 68 σ' Z [.cell 6 31] = some rs ∧ (Ext w Z ∧ ∃ cs, resT rs = .agg cs.toArray ∧ ResB w0 w.heap.size Z cs (lookL o R q t)) := fun {Y z cs r σ'} hY hres hr hzs hbz hkz h6' => by
    have hYs := hY.size
    refine ⟨(hkz.block _ (by omega) (by omega)).trans (Ext.at hY hDv), fun Z hkZ hsZ => ⟨_, res_agg (x := ⟨w.heap.size + 1 + 1, 0, Option.none⟩) (k := 5) ((vq1 h6')) rfl rfl (sv_cells ((hkZ.block _ (by omega) (by omega)).trans hbz) hres.cells.1.symm) res_nil, ?_, _, rfl, ?_⟩⟩
    ·exact Keep.to_ext (Keep.to_ext (hEwv.trans hY) rfl (fun b hb => by omega) hkz) rfl (fun b hb => by omega) hkZ
    ·rw [← hr]
     exact (((hres.keep hkz (fun b hb _ => by omega)).keep hkZ (fun b hb _ => by omega))).mono (by omega)
   repeat refine c_r ?_
   refine rq ?_; intro gd K hgd hK
   try simp (disch := first | omega | assumption | rfl) only [↓reduceIte, go_sem, Nat.reduceLT, Nat.reduceEqDiff, Nat.reduceSub, h3, h4, d2v, dqv]
   refine Fn.mono (Exists_ok hzv hqv' mq.s) ?_
   rintro _ Y1 ⟨rfl, hY1⟩
   try simp (disch := first | omega | assumption | rfl) only [↓reduceIte, go_sem, Nat.reduceLT, Nat.reduceEqDiff, Nat.reduceSub]
   refine hK _ _ ?_; clear hK hgd; clear K; try clear gd
   have hzY1 := hzv.ext hY1
   have d2y := cellsO_ext hY1 d2v
   have dqy := cellO_ext hY1 dqv
   have hY1s := hY1.size
   repeat refine c_r ?_
   refine W_cond (t := existsL o R q) (vq0) ?_ ?_
   ·intro hex
    rw [hex, if_pos rfl] at hlk
    repeat refine c_r ?_
    refine rq ?_; intro gd K hgd hK
    try simp (disch := first | omega | assumption | rfl) only [↓reduceIte, go_sem, Nat.reduceLT, Nat.reduceEqDiff, Nat.reduceSub, h3, h4, h2, d2y, dqy]
    refine Fn.mono (At_ok hzY1 hR (hqv'.ext hY1) mq.s) ?_
    rintro _ Y2 ⟨hY2, cs, rfl, hres⟩
    try simp (disch := first | omega | assumption | rfl) only [↓reduceIte, go_sem, Nat.reduceLT, Nat.reduceEqDiff, Nat.reduceSub, h6]
    have hY2s := hY2.size
    refine sv_all (P := Tryz.prog) (t := 31) (l := cs) (Ext.at (hY1.trans hY2) hCv) hres.cells.1 hres.cells.2 (by rw [hres.cells.1]; rfl) rfl ?_
    intro z hz' hbz2 hkz
    try simp (disch := first | omega | assumption | rfl) only [↓reduceIte, go_sem, Nat.reduceLT, Nat.reduceEqDiff, Nat.reduceSub]
    refine hK _ _ ?_; clear hK hgd; clear K; try clear gd
    repeat refine c_r ?_
    obtain ⟨f1, f2⟩ := fin (hY1.trans hY2) (hres.mono hY1s) hlk.symm hz' hbz2 hkz h6
    refine ret_anyM (.inr rfl) Tryz.ntmps18 rfl f1 ?_
    intro Z hkZ hsZ
    exact f2 Z hkZ hsZ
   intro hex
   rw [hex, if_neg Bool.false_ne_true] at hlk
   repeat refine c_r ?_
   refine rq ?_; intro gd K hgd hK
   try simp (disch := first | omega | assumption | rfl) only [↓reduceIte, go_sem, Nat.reduceLT, Nat.reduceEqDiff, Nat.reduceSub, h3, h4, d2y, dqy]
   refine Fn.mono (Source_ok hzY1 (hqv'.ext hY1) mq.s ql) ?_
   rintro _ Y2 ⟨hY2, sv, rfl, hsv⟩
   try simp (disch := first | omega | assumption | rfl) only [↓reduceIte, go_sem, Nat.reduceLT, Nat.reduceEqDiff, Nat.reduceSub]
   refine hK _ _ ?_; clear hK hgd; clear K; try clear gd
   have hY2s := hY2.size
   have hzY2 := hzY1.ext hY2
   have d2z := cellsO_ext hY2 d2y
   have dqz := cellO_ext hY2 dqy
   repeat refine c_r ?_
   refine rg0 ?_
   repeat refine c_r ?_
   refine W_cond (t := (sourceL o R q).isSome) (vq0) ?_ ?_
   ·intro hs
    obtain ⟨s0, hs0⟩ := Option.isSome_iff_exists.1 hs
    rw [hs0] at hlk hsv
    have hsn : s0 = sourceN o R q := by
     unfold sourceL at hs0
     split at hs0
     ·exact (Option.some.inj hs0).symm
     ·cases hs0
    have hss : NmS s0 := by rw [hsn]; exact star_ok mq.s ql
    repeat refine c_r ?_
    refine rq ?_; intro gd K hgd hK
    try simp (disch := first | omega | assumption | rfl) only [↓reduceIte, go_sem, Nat.reduceLT, Nat.reduceEqDiff, Nat.reduceSub, h3, h2, d2z]
    refine Fn.mono (At_ok hzY2 hR hsv hss) ?_
    rintro _ Y3 ⟨hY3, cs, rfl, hres⟩
    try simp (disch := first | omega | assumption | rfl) only [↓reduceIte, go_sem, Nat.reduceLT, Nat.reduceEqDiff, Nat.reduceSub, h6]
    have hY3s := hY3.size
    refine sv_all (P := Tryz.prog) (t := 31) (l := cs) (Ext.at ((hY1.trans hY2).trans hY3) hCv) hres.cells.1 hres.cells.2 (by rw [hres.cells.1]; rfl) rfl ?_
    intro z hz' hbz2 hkz
    try simp (disch := first | omega | assumption | rfl) only [↓reduceIte, go_sem, Nat.reduceLT, Nat.reduceEqDiff, Nat.reduceSub]
    refine hK _ _ ?_; clear hK hgd; clear K; try clear gd
    repeat refine c_r ?_
    obtain ⟨f1, f2⟩ := fin ((hY1.trans hY2).trans hY3) (hres.mono (by omega)) hlk.symm hz' hbz2 hkz h6
    refine ret_anyM (.inr rfl) Tryz.ntmps18 rfl f1 ?_
    intro Z hkZ hsZ
    exact f2 Z hkZ hsZ
   ·intro hs
    have hs0 : sourceL o R q = Option.none := by simpa using hs
    rw [hs0] at hlk
    repeat refine c_r ?_
    refine rq ?_; intro gd K hgd hK
    try simp (disch := first | omega | assumption | rfl) only [↓reduceIte, go_sem, Nat.reduceLT, Nat.reduceEqDiff, Nat.reduceSub, h6]
    refine ⟨by kernel_rfl, ?_⟩
    rw [show bdV Tryz.prog 31 [(0, vi 3)] = some (.agg #[vi 3, .slice Option.none 0 0, .slice Option.none 0 0, .bool false, .slice Option.none 0 0]) from by kernel_rfl]
    try simp (disch := first | omega | assumption | rfl) only [↓reduceIte, go_sem, Nat.reduceLT, Nat.reduceEqDiff, Nat.reduceSub, h6]
    refine sv_all (P := Tryz.prog) (t := 31) (l := [vi 3, .slice Option.none 0 0, .slice Option.none 0 0, .bool false, .slice Option.none 0 0]) (Ext.at (hY1.trans hY2) hCv) rfl (fun v h => by simp at h; rcases h with rfl | rfl | rfl | rfl | rfl <;> rfl) rfl rfl ?_
    intro z hz' hbz2 hkz
    try simp (disch := first | omega | assumption | rfl) only [↓reduceIte, go_sem, Nat.reduceLT, Nat.reduceEqDiff, Nat.reduceSub]
    refine hK _ _ ?_; clear hK hgd; clear K; try clear gd
    repeat refine c_r ?_
    obtain ⟨f1, f2⟩ := fin (r := ⟨3, [], [], false, []⟩) (hY1.trans hY2) ⟨_, _, _, rfl, Rows.nil _ _ _, BlkB.nil, .inr (nil_row _), Rows.nil _ _ _, BlkB.nil⟩ hlk.symm hz' hbz2 hkz h6
    refine ret_anyM (.inr rfl) Tryz.ntmps18 rfl f1 ?_
    intro Z hkZ hsZ
    exact f2 Z hkZ hsZ
  ·have hlk : lookL o R q t = r := by
    unfold lookL
    rw [if_neg (by rw [hu]; decide), hgo]
   have hDlt : w3.heap.size < v1.heap.size := (Array.getElem?_eq_some_iff.1 hDv).1
   repeat refine c_r ?_
   refine ret_anyM (.inr rfl) Tryz.ntmps18 rfl hDv ?_
   intro Z hkZ hsZ
   refine ⟨_, res_agg (x := ⟨w.heap.size + 1 + 1, 0, Option.none⟩) (k := 5) ((vq1 h6)) rfl rfl (sv_cells ((hkZ.block _ (by have := hE3.size; omega) (by omega)).trans hbv) hres.cells.1.symm) res_nil, Keep.to_ext hEv rfl (fun b hb => by omega) hkZ, _, rfl, ?_⟩
   rw [hlk]
   exact (hres.keep hkZ (fun b hb _ => by omega)).mono (by omega)
end Go.Proofs.YtopbbjdembnfdaaGreat

namespace Go.Proofs.YtopbbjdembnfdaaGreat
open Go
set_option maxRecDepth 10000

def hintStep (R : List RecL) (G : List (Nm × List DatL)) (h : Nm) : List (Nm × List DatL) :=
 if (G.any fun x => decide (textN x.1 = textN h)) = false ∧ glueL R h ≠ [] then G ++ [(h, glueL R h)] else G
def hintsL (R : List RecL) (hs : List Nm) : List (Nm × List DatL) := hs.foldl (hintStep R) []
theorem hints_go {R : List RecL} : ∀ (hs : List Nm) (G : List (Nm × List DatL)) (had : List (List UInt8)), (∀ h ∈ hs, NmG h) → (∀ x ∈ G, textN x.1 ∈ had) → (∀ h, NmG h → textN h ∈ had → glueL R h ≠ [] → (G.any fun x => decide (textN x.1 = textN h)) = true) →
  hs.foldl (hintStep R) G = G ++ glueOf R (hostsG had hs)
 | [], G, had, _, _, _ => by simp [hostsG, glueOf]
 | h :: hs, G, had, hg, ha, hb => by
  have h1 := hg h (List.mem_cons_self ..)
  have hg' := fun x hx => hg x (List.mem_cons_of_mem _ hx)
  rw [List.foldl_cons]
  by_cases hc : textN h ∈ had
  ·have e : hostsG had (h :: hs) = hostsG had hs := by
    rw [hostsG, if_pos (by simpa using hc)]
   rw [e]
   have e2 : hintStep R G h = G := by
    unfold hintStep
    rw [if_neg]
    rintro ⟨h2, h3⟩
    rw [hb h h1 hc h3] at h2
    cases h2
   rw [e2]
   exact hints_go hs G had hg' ha hb
  ·have e : hostsG had (h :: hs) = h :: hostsG (textN h :: had) hs := by
    rw [hostsG, if_neg (by simpa using hc)]
   rw [e]
   have hno : (G.any fun x => decide (textN x.1 = textN h)) = false := by
    rw [List.any_eq_false]
    intro x hx h2
    rw [decide_eq_true_eq] at h2
    exact hc (h2 ▸ ha x hx)
   by_cases hgl : glueL R h = []
   ·have e2 : hintStep R G h = G := by
     unfold hintStep
     rw [if_neg (fun h => h.2 hgl)]
    have e3 : glueOf R (h :: hostsG (textN h :: had) hs) = glueOf R (hostsG (textN h :: had) hs) := by
     unfold glueOf
     simp [hgl]
    rw [e2, e3]
    refine hints_go hs G (textN h :: had) hg' (fun x hx => List.mem_cons_of_mem _ (ha x hx)) (fun k hk hm hne => ?_)
    rcases List.mem_cons.1 hm with h2 | h2
    ·have := textN_inj hk.ne h1.ne h2
     rw [this] at hne
     exact absurd hgl hne
    ·exact hb k hk h2 hne
   ·have e2 : hintStep R G h = G ++ [(h, glueL R h)] := by
     unfold hintStep
     rw [if_pos ⟨hno, hgl⟩]
    have e3 : glueOf R (h :: hostsG (textN h :: had) hs) = (h, glueL R h) :: glueOf R (hostsG (textN h :: had) hs) := by
     unfold glueOf
     simp [hgl]
    rw [e2, e3, hints_go hs (G ++ [(h, glueL R h)]) (textN h :: had) hg' ?_ ?_]
    ·simp
    ·intro x hx
     rcases List.mem_append.1 hx with hx | hx
     ·exact List.mem_cons_of_mem _ (ha x hx)
     ·rw [List.mem_singleton.1 hx]; exact List.mem_cons_self ..
    ·intro k hk hm hne
     rw [List.any_append]
     rcases List.mem_cons.1 hm with h2 | h2
     ·rw [Bool.or_eq_true]; right
      simp [h2]
     ·rw [hb k hk h2 hne, Bool.true_or]
theorem hints_is {R : List RecL} {hs : List Nm} (h : ∀ x ∈ hs, NmG x) : hintsL R hs = glueOf R (hostsG [] hs) := by
 unfold hintsL
 rw [hints_go hs [] [] h (fun x hx => by cases hx) (fun k _ hm => by cases hm)]; rfl
theorem hintsL_snoc (R : List RecL) (hs : List Nm) (h : Nm) : hintsL R (hs ++ [h]) = hintStep R (hintsL R hs) h := by
 unfold hintsL
 rw [List.foldl_append]; rfl

structure HI (w0 : World) (B : Nat) (A : World) (gv : Value) (G : List GlX) : Prop where
 own : Owns 2 glC B A 143 gv G
 row : ∀ x ∈ G, Row w0 x.2.1 (x.1.1.map vs) ∧ Rows 5 (DatAt w0) A x.2.2 x.1.2 ∧ BlkB B A x.2.2 ∧ ∀ a n c, x.2.2 = .slice (some a) n c → some a.block ≠ gv.ownBlock
 nm : ∀ x ∈ G, NmG x.1.1
theorem HI.ext {w0 A A' : World} {B : Nat} {gv : Value} {G : List GlX} (h : HI w0 B A gv G) (hE : Ext A A') : HI w0 B A' gv G :=
 ⟨h.own.ext hE, fun x hx => by
  obtain ⟨h1, h2, h3, h4⟩ := h.row x hx
  exact ⟨h1, h2.ext hE, h3.ext hE.size, h4⟩, h.nm⟩
theorem HI.app {w0 A A' : World} {B : Nat} {gv v' : Value} {G : List GlX} {s : GlX} (h : HI w0 B A gv G) (hs : Row w0 s.2.1 (s.1.1.map vs) ∧ Rows 5 (DatAt w0) A s.2.2 s.1.2 ∧ BlkB B A s.2.2 ∧ ∀ a n c, s.2.2 = .slice (some a) n c → some a.block ≠ gv.ownBlock)
  (hnm : NmG s.1.1) (ho : Owns 2 glC B A' 143 v' (G ++ [s])) (hk : Keep (fun b => some b = gv.ownBlock) A A') (hb : ∀ b, some b = v'.ownBlock → some b = gv.ownBlock ∨ A.heap.size ≤ b) : HI w0 B A' v' (G ++ [s]) := by
 refine ⟨ho, fun y hy => ?_, fun y hy => ?_⟩
 ·have hy2 : Row w0 y.2.1 (y.1.1.map vs) ∧ Rows 5 (DatAt w0) A y.2.2 y.1.2 ∧ BlkB B A y.2.2 ∧ ∀ a n c, y.2.2 = .slice (some a) n c → some a.block ≠ gv.ownBlock := by
   rcases List.mem_append.1 hy with hy | hy
   ·exact h.row y hy
   ·rw [List.mem_singleton.1 hy]; exact hs
  obtain ⟨h1, h2, h3, h4⟩ := hy2
  refine ⟨h1, h2.blocks fun a n c hv => hk.block _ (h3 a n c hv).2 (h4 a n c hv), h3.ext hk.size, fun a n c hv e => ?_⟩
  rcases hb _ e with e | e
  ·exact h4 a n c hv e
  ·have := (h3 a n c hv).2; omega
 ·rcases List.mem_append.1 hy with hy | hy
  ·exact h.nm y hy
  ·rw [List.mem_singleton.1 hy]; exact hnm

set_option maxHeartbeats 2000000 in
theorem RHints_ok {w0 w : World} {ov lv dv : Value} {o : Nm} {R : List RecL} {D : List DatL} (hz : ZnAt w0 w ov lv o R) (hs : SortR R) (hd : Rows 5 (DatAt w0) w dv D) (hD : ∀ d ∈ D, ∃ h t, d.names = h :: t ∧ NmG h) (hDl : D.length ≤ 1000000000) :
  Fn Tryz.prog 70 #[.agg #[ov, lv], dv] w (fun v w' => Ext w w' ∧ Rows 2 (GlB w0 w.heap.size w') w' v (glueOf R (hostsL 2 D)) ∧ BlkB w.heap.size w' v) := by
 obtain ⟨ao, co, hov, _⟩ := id hz.org
 obtain ⟨al, cl, hlv, _⟩ := hz.recs.open
 obtain ⟨aD, cD, rfl, hcD, hgD⟩ := hd.open
 rw [hov, hlv]
 refine enter Tryz.func70 Tryz.ntmps70 rfl rfl ?_
 repeat refine c_r ?_
 refine rg0 ?_
 repeat refine c_r ?_
 rw [← hov, ← hlv]
 refine W_alloc1 ?_
 intro w1 hE1 hs1 hA
 have d2 := sv_cells (n := 2) (l := [ov, lv]) hA rfl
 have s1 := hE1.size
 refine rg0 ?_
 repeat refine c_r ?_
 refine rg0 ?_
 repeat refine c_r ?_
 refine W_loop (fun m σ ds A => ds = [] ∧ ∃ (i : Nat) (gv : Value) (G : List GlX), i + m = D.length ∧ σ 6 = vi i ∧ σ 5 = gv ∧ σ 1 = .slice aD D.length cD ∧ σ 2 = .pointer (some ⟨w.heap.size, 0, Option.none⟩) ∧ Ext w1 A ∧ HI w0 w1.heap.size A gv G ∧ G.length ≤ i ∧ G.map Prod.fst = hintsL R ((D.take i).filterMap fun d => d.names.head?)) D.length ?_ ?_
 ·exact ⟨rfl, 0, .slice Option.none 0 0, [], by omega, vr0, vq0, vq0, vq0, Keep.refl _ _, ⟨Owns.nil _ _ _ _ _, fun x h => absurd h (by simp), fun x h => absurd h (by simp)⟩, Nat.le_refl _, rfl⟩
 rintro m σ ds A ⟨rfl, i, gv, G, him, h6, h5, h1, h2, hEA, hHI, hGl, hGm⟩
 have hwA := hE1.trans hEA
 repeat refine c_r ?_
 refine rg2 h6 h1 ?_
 repeat refine c_r ?_
 refine wc0 ?_ ?_
 ·intro hlt
  simp only [decide_eq_true_eq] at hlt
  have hi : i < D.length := by omega
  have hi0 : (0 : Int) ≤ (i : Int) := by omega
  have hi1 : (i : Int) < (D.length : Int) := by omega
  have hi1' : (i : Int) + 1 = ((i + 1 : Nat) : Int) := by push_cast; rfl
  obtain ⟨cd, hcd, hDd⟩ := hgD i hi
  obtain ⟨d, hdd⟩ : ∃ d, D[i] = d := ⟨_, rfl⟩
  rw [hdd] at hDd
  obtain ⟨h, tl, hnames, hNm⟩ := hD d (hdd ▸ List.getElem_mem hi)
  obtain ⟨xD, rfl⟩ := Option.isSome_iff_exists.1 (cellsO_some hcd)
  obtain ⟨xi, hxi⟩ : ∃ xi, adr (some xD) (i * 5) = some xi := ⟨_, rfl⟩
  rw [hxi] at hcd
  have hcdA := cellsO_ext hwA hcd
  obtain ⟨nm, nu, tx, rw', hcs, n1, _⟩ := hDd.ex
  obtain ⟨vals, ⟨an, cn, rfl, hcn, hgn⟩, hvl, hvr⟩ := n1
  have hvl1 : 0 < vals.length := by rw [hvl, hnames]; simp
  obtain ⟨xN, rfl⟩ := Option.isSome_iff_exists.1 (some_of_cellO (hgn 0 hvl1))
  have e1 : cellO A (adr (some xi) 1) = some (.slice (some xN) vals.length cn) := cell_of_cells hcdA (j := 1) (by rw [hcs]; rfl)
  have e2 : cellO A (some xN) = some (vals[0]'hvl1) := by
   have := cellO_ext (hz.e0.trans hwA) (hgn 0 hvl1)
   rwa [adr_zero] at this
  obtain ⟨hv, hhv⟩ : ∃ hv, vals[0]'hvl1 = hv := ⟨_, rfl⟩
  have hrow : Row w0 hv (h.map vs) := by
   have := hvr 0 hvl1 (by rw [hnames]; simp)
   rw [hhv] at this
   simpa [hnames] using this
  rw [hhv] at e2
  have htk : ((D.take (i + 1)).filterMap fun d => d.names.head?) = ((D.take i).filterMap fun d => d.names.head?) ++ [h] := by
   rw [take_succ' hi, hdd, List.filterMap_append]
   simp [hnames]
  have hv0 : (0 : Int) < (vals.length : Int) := by omega
  have hz0 : (0 : Int) ≤ 0 := by omega
  repeat refine c_r ?_
  refine rq ?_; intro gd K hgd hK; simp (disch := first | omega | assumption | rfl) only [↓reduceIte, go_sem, Nat.reduceLT, Nat.reduceEqDiff, Nat.reduceSub, h1, h6, hi0, hi1, hxi, e1, e2, hv0, hz0, adr_zero, Nat.zero_mul, Int.toNat_zero]; refine hK _ _ ?_; clear hK hgd; clear K gd
  repeat refine c_r ?_
  refine rg0 ?_
  repeat refine c_r ?_
  refine rg0 ?_
  repeat refine c_r ?_
  have hGb : G.length ≤ 1000000000 := by omega
  refine W_mono (Q := fun e σ' ds' v' => e = .exit 2 ∧ ds' = [] ∧ σ' 7 = hv ∧ σ' 6 = vi i ∧ σ' 5 = gv ∧ σ' 1 = .slice (some xD) D.length cD ∧ σ' 2 = .pointer (some ⟨w.heap.size, 0, Option.none⟩) ∧ Ext A v' ∧ σ' 8 = .bool (G.any fun x => decide (textN x.1.1 = textN h))) ?_ ?_
  ·refine W_loop (fun m2 σ ds v => ds = [] ∧ ∃ (j : Nat), j + m2 = G.length ∧ σ 9 = vi j ∧ σ 8 = .bool ((G.take j).any fun x => decide (textN x.1.1 = textN h)) ∧ σ 7 = hv ∧ σ 6 = vi i ∧ σ 5 = gv ∧ σ 1 = .slice (some xD) D.length cD ∧ σ 2 = .pointer (some ⟨w.heap.size, 0, Option.none⟩) ∧ Ext A v) G.length ?_ ?_
   ·exact ⟨rfl, 0, by omega, vr0, vr0, vq0, (vq1 h6), (vq1 h5), (vq1 h1), (vq1 h2), Keep.refl _ _⟩
   clear h6 h5 h1 h2
   rintro m2 σ2 ds2 V ⟨rfl, j, hjm, h9, h8, h7, h6, h5, h1, h2, hV⟩
   obtain ⟨ag, cg, hgv, hcg, hgG⟩ := hHI.own.rows.open
   repeat refine c_r ?_
   refine rg3 h9 h5 hgv ?_
   repeat refine c_r ?_
   refine wc0 ?_ ?_
   ·intro hlt2
    simp only [decide_eq_true_eq] at hlt2
    have hj : j < G.length := by omega
    have hj0 : (0 : Int) ≤ (j : Int) := by omega
    have hj1 : (j : Int) < (G.length : Int) := by omega
    have hj1' : (j : Int) + 1 = ((j + 1 : Nat) : Int) := by push_cast; rfl
    obtain ⟨cj, hcj, hCj⟩ := hgG j hj
    obtain ⟨xG, rfl⟩ := Option.isSome_iff_exists.1 (cellsO_some hcj)
    obtain ⟨yi, hyi⟩ : ∃ yi, adr (some xG) (j * 2) = some yi := ⟨_, rfl⟩
    rw [hyi, hCj.1] at hcj
    obtain ⟨r1, r2, r3, r4⟩ := hHI.row G[j] (List.getElem_mem hj)
    have hNj := hHI.nm G[j] (List.getElem_mem hj)
    have y0 : cellO V (some yi) = some G[j].2.1 := by
     have := cell_of_cells (cellsO_ext hV hcj) (j := 0) rfl
     rwa [adr_zero] at this
    obtain ⟨bb, hbb⟩ : ∃ bb, ((G.take j).any fun x => decide (textN x.1.1 = textN h)) = bb := ⟨_, rfl⟩
    have htj : ((G.take (j + 1)).any fun x => decide (textN x.1.1 = textN h)) = (bb || decide (textN G[j].1.1 = textN h)) := by
     rw [take_succ' hj, List.any_append, hbb]; simp
    rw [hbb] at h8
    have hw0V := hz.e0.trans (hwA.trans hV)
    cases bb with
    | true =>
     repeat refine c_r ?_
     refine rq ?_; intro gd K hgd hK
     have hg1 : ∀ n σ b, wantV gd n σ (some (1, b)) = boolIs (ev n σ (.tmp 31)) b := (fun n σ b => by rw [wantV_some, show gd 1 = some 31 from (by rw [hgd]; rfl)]; rfl)
     try simp (disch := first | omega | assumption | rfl) only [↓reduceIte, go_sem, Nat.reduceLT, Nat.reduceEqDiff, Nat.reduceSub, h8, h5, h9, h7, ↓hg1]
     refine hK _ _ ?_; clear hK hgd; clear K; try clear gd
     repeat refine c_r ?_
     refine rg2 h9 hj1' ?_
     repeat refine c_r ?_
     exact ⟨m2 - 1, by omega, rfl, j + 1, by omega, vq0, by rw [htj, Bool.true_or]; simp only [↓reduceIte, go_sem, Nat.reduceLT, Nat.reduceEqDiff, Nat.reduceSub], (vq1 h7), (vq1 h6), (vq1 h5), (vq1 h1), (vq1 h2), hV⟩
    | false =>
     repeat refine c_r ?_
     refine rq ?_; intro gd K hgd hK
     have hg1 : ∀ n σ b, wantV gd n σ (some (1, b)) = boolIs (ev n σ (.tmp 31)) b := (fun n σ b => by rw [wantV_some, show gd 1 = some 31 from (by rw [hgd]; rfl)]; rfl)
     try simp (disch := first | omega | assumption | rfl) only [↓reduceIte, go_sem, Nat.reduceLT, Nat.reduceEqDiff, Nat.reduceSub, h8, h5, hgv, h9, h7, hj0, hj1, hyi, y0, adr_zero, ↓hg1]
     refine Fn.mono (RNameText_ok V _ _ (r1.ext hw0V) hNj.lb hNj.len) ?_
     rintro _ V1 ⟨rfl, hV1⟩
     try simp (disch := first | omega | assumption | rfl) only [↓reduceIte, go_sem, Nat.reduceLT, Nat.reduceEqDiff, Nat.reduceSub, h7, ↓hg1]
     refine Fn.mono (RNameText_ok V1 _ _ (hrow.ext (hw0V.trans hV1)) hNm.lb hNm.len) ?_
     rintro _ V2 ⟨rfl, hV2⟩
     try simp (disch := first | omega | assumption | rfl) only [↓reduceIte, go_sem, Nat.reduceLT, Nat.reduceEqDiff, Nat.reduceSub, ↓hg1]
     refine hK _ _ ?_; clear hK hgd; clear K; try clear gd
     repeat refine c_r ?_
     refine rg2 h9 hj1' ?_
     repeat refine c_r ?_
     exact ⟨m2 - 1, by omega, rfl, j + 1, by omega, vq0, by rw [htj, Bool.false_or]; first | (simp only [↓reduceIte, go_sem, Nat.reduceLT, Nat.reduceEqDiff, Nat.reduceSub]; done) | (simp only [↓reduceIte, go_sem, Nat.reduceLT, Nat.reduceEqDiff, Nat.reduceSub]; rfl), (vq1 h7), (vq1 h6), (vq1 h5), (vq1 h1), (vq1 h2), (hV.trans hV1).trans hV2⟩
   ·intro hge2
    simp only [decide_eq_false_iff_not] at hge2
    have hj : j = G.length := by omega
    rw [hj, List.take_length] at h8
    repeat refine c_r ?_
    exact ⟨rfl, rfl, (vq1 h7), (vq1 h6), (vq1 h5), (vq1 h1), (vq1 h2), hV, (vq1 h8)⟩
  clear h6 h5 h1 h2
  rintro _ σ1 _ A1 ⟨rfl, rfl, h7, h6, h5, h1, h2, hA1, h8⟩
  have hwA1 := hwA.trans hA1
  have hHI1 := hHI.ext hA1
  obtain ⟨bb, hbb⟩ : ∃ bb, (G.any fun x => decide (textN x.1.1 = textN h)) = bb := ⟨_, rfl⟩
  have hbb' : ((G.map Prod.fst).any fun x => decide (textN x.1 = textN h)) = bb := by rw [List.any_map]; exact hbb
  rw [hbb] at h8
  have d2A := cellsO_ext (hEA.trans hA1) d2
  repeat refine c_r ?_
  refine rq ?_; intro gd K hgd hK
  try simp (disch := first | omega | assumption | rfl) only [↓reduceIte, go_sem, Nat.reduceLT, Nat.reduceEqDiff, Nat.reduceSub, h2, h7, d2A]
  refine Fn.mono (RGlue_ok (hz.ext hwA1) hs (hrow.ext (hz.e0.trans hwA1)) (fun l hl => by have := hNm.lb l hl; omega) (by have := hNm.len; omega)) ?_
  rintro gl A2 ⟨hA2, hgl, hglb⟩
  try simp (disch := first | omega | assumption | rfl) only [↓reduceIte, go_sem, Nat.reduceLT, Nat.reduceEqDiff, Nat.reduceSub]
  refine hK _ _ ?_; clear hK hgd; clear K; try clear gd
  obtain ⟨al2, cl2, hgle, _⟩ := hgl.open
  have hwA2 := hwA1.trans hA2
  have hHI2 := hHI1.ext hA2
  have hgll : (glueL R h).length ≤ 100000000000 := by
   have l1 := datC_len (R := R) (n := h) (t := 1)
   have l28 := datC_len (R := R) (n := h) (t := 28)
   have := hz.rl
   unfold glueL
   rw [List.length_append]; omega
  have hstep : hintsL R ((D.take (i + 1)).filterMap fun d => d.names.head?) = if bb = false ∧ glueL R h ≠ [] then G.map Prod.fst ++ [(h, glueL R h)] else G.map Prod.fst := by
   rw [htk, hintsL_snoc, ← hGm]
   unfold hintStep
   rw [hbb']
  repeat refine c_r ?_
  refine W_mono (Q := fun e σ' ds' v' => e = .normal ∧ ds' = [] ∧ σ' 10 = gl ∧ σ' 7 = hv ∧ σ' 6 = vi i ∧ σ' 5 = gv ∧ σ' 1 = .slice (some xD) D.length cD ∧ σ' 2 = .pointer (some ⟨w.heap.size, 0, Option.none⟩) ∧ v' = A2 ∧ σ' 51 = .bool (!bb && decide (0 < ((glueL R h).length : Int)))) ?_ ?_
  ·cases bb with
   | true =>
    refine rq ?_; intro gd K hgd hK
    have hg2 : ∀ n σ b, wantV gd n σ (some (2, b)) = boolIs (ev n σ (.tmp 47)) b := (fun n σ b => by rw [wantV_some, show gd 2 = some 47 from (by rw [hgd]; rfl)]; rfl)
    try simp (disch := first | omega | assumption | rfl) only [↓reduceIte, go_sem, Nat.reduceLT, Nat.reduceEqDiff, Nat.reduceSub, h8, ↓hg2]
    refine hK _ _ ?_; clear hK hgd; clear K; try clear gd
    exact ⟨rfl, rfl, vq0, (vq1 h7), (vq1 h6), (vq1 h5), (vq1 h1), (vq1 h2), rfl, vr0⟩
   | false =>
    refine rq ?_; intro gd K hgd hK
    have hg2 : ∀ n σ b, wantV gd n σ (some (2, b)) = boolIs (ev n σ (.tmp 47)) b := (fun n σ b => by rw [wantV_some, show gd 2 = some 47 from (by rw [hgd]; rfl)]; rfl)
    try simp (disch := first | omega | assumption | rfl) only [↓reduceIte, go_sem, Nat.reduceLT, Nat.reduceEqDiff, Nat.reduceSub, h8, hgle, ↓hg2]
    refine hK _ _ ?_; clear hK hgd; clear K; try clear gd
    exact ⟨rfl, rfl, (vq1 hgle), (vq1 h7), (vq1 h6), (vq1 h5), (vq1 h1), (vq1 h2), rfl, vr0⟩
  clear h6 h5 h1 h2 h7 h8
  rintro _ σ3 _ A3 ⟨rfl, rfl, h10, h7, h6, h5, h1, h2, hA3, h51⟩
  rw [hA3]
  clear hA3 A3
  repeat refine c_r ?_
  refine W_cond (t := !bb && decide (0 < ((glueL R h).length : Int))) ((vq1 h51)) ?_ ?_
  ·intro ht
   simp only [Bool.and_eq_true, Bool.not_eq_true', decide_eq_true_eq] at ht
   have hne : glueL R h ≠ [] := fun h0 => by rw [h0] at ht; simp at ht
   rw [if_pos ⟨ht.1, hne⟩] at hstep
   obtain ⟨oa, oc, how, _⟩ := id hrow
   obtain ⟨on, hon⟩ : ∃ on, (h.map vs).length = on := ⟨_, rfl⟩
   obtain ⟨gn, hgn2⟩ : ∃ gn, (glueL R h).length = gn := ⟨_, rfl⟩
   rw [hon] at how
   rw [hgn2] at hgle
   have hone : one hv = true := by rw [how]; rfl
   have hong : one gl = true := by rw [hgle]; rfl
   repeat refine c_r ?_
   refine rq ?_; intro gd K hgd hK
   try simp (disch := first | omega | assumption | rfl) only [↓reduceIte, go_sem, Nat.reduceLT, Nat.reduceEqDiff, Nat.reduceSub, h5, h7, h10]
   refine ⟨by kernel_rfl, ?_⟩
   rw [how, hgle, show bdV Tryz.prog 143 [(0, .slice oa on oc), (1, .slice al2 gn cl2)] = some (.agg #[.slice oa on oc, .slice al2 gn cl2]) from by kernel_rfl]
   try simp (disch := first | omega | assumption | rfl) only [↓reduceIte, go_sem, Nat.reduceLT, Nat.reduceEqDiff, Nat.reduceSub]
   rw [← how, ← hgle]
   refine bs_oneR (l := [hv, gl]) (a := (((h, glueL R h), (hv, gl)) : GlX)) gl_shape rfl rfl rfl rfl ⟨rfl, hone, hong⟩ (by decide) ?_
   intro A3 hA3 hs3 ho3
   try simp (disch := first | omega | assumption | rfl) only [↓reduceIte, go_sem, Nat.reduceLT, Nat.reduceEqDiff, Nat.reduceSub, h5]
   have hA2s := hA2.size
   have hA1s := hA1.size
   have hEAs := hEA.size
   refine op_appR gl_shape (hHI2.ext hA3).own ho3.rows rfl rfl rfl rfl rfl rfl (by decide) (vr0) (vr0) (by simp; omega) (by decide) (by omega) ?_
   intro v7 A4 ho7 hE7 hk7 hb7
   try simp (disch := first | omega | assumption | rfl) only [↓reduceIte, go_sem, Nat.reduceLT, Nat.reduceEqDiff, Nat.reduceSub]
   refine hK _ _ ?_; clear hK hgd; clear K; try clear gd
   have hgl3 := hgl.ext hA3
   have hglb3 := hglb.ext hA3.size
   have hnew := (hHI2.ext hA3).app (s := (((h, glueL R h), (hv, gl)) : GlX)) ⟨hrow, hgl3, hglb3.mono (by omega), fun a n c hv e => by
    have h8 := (hglb3 a n c hv).1
    have h9 := (hHI1.own.ge e).2
    omega⟩ hNm ho7 hk7 hb7
   repeat refine c_r ?_
   refine rg2 h6 hi1' ?_
   repeat refine c_r ?_
   exact ⟨m - 1, by omega, rfl, i + 1, v7, _, by omega, vq0, vq0, (vq1 h1), (vq1 h2), hE7 w1 (((hEA.trans hA1).trans hA2).trans hA3) (Nat.le_refl _), hnew, by simp; omega, by rw [hstep]; simp⟩
  ·intro ht
   have hno : ¬ (bb = false ∧ glueL R h ≠ []) := by
    rintro ⟨rfl, h2⟩
    have := List.length_pos_iff.2 h2
    rw [Bool.not_false, Bool.true_and, decide_eq_false_iff_not] at ht
    omega
   rw [if_neg hno] at hstep
   repeat refine c_r ?_
   refine rg2 h6 hi1' ?_
   repeat refine c_r ?_
   exact ⟨m - 1, by omega, rfl, i + 1, gv, G, by omega, vq0, (vq1 h5), (vq1 h1), (vq1 h2), (hEA.trans hA1).trans hA2, hHI2, by omega, hstep.symm⟩
 ·intro hge
  simp only [decide_eq_false_iff_not] at hge
  have hi : i = D.length := by omega
  repeat refine c_r ?_
  refine rg1 h5 ?_
  repeat refine c_r ?_
  refine rt0 Tryz.ntmps70 ?_
  rw [hi, List.take_length] at hGm
  have hg : ∀ x ∈ (D.filterMap fun d => d.names.head?), NmG x := fun x hx => by
   obtain ⟨d, hd, h⟩ := List.mem_filterMap.1 hx
   obtain ⟨h', t, hn, hN⟩ := hD d hd
   rw [hn] at h
   cases h
   exact hN
  rw [hints_is hg] at hGm
  have htg : hostsL 2 D = hostsG [] (D.filterMap fun d => d.names.head?) := by
   unfold hostsL targetsL
   rw [if_pos (show leads 2 = true from by decide)]
  have hgl := hHI.own.rows.mapM (C' := GlB w0 w.heap.size A) Prod.fst (fun cs x hx hc => by
   obtain ⟨j1, j2, j3, j4⟩ := hHI.row x hx
   exact ⟨x.2.1, x.2.2, hc.1, j1, j2, j3.mono (by omega)⟩)
  rw [hGm, ← htg] at hgl
  exact ⟨hwA, hgl, hHI.own.blk.mono (by omega)⟩
end Go.Proofs.YtopbbjdembnfdaaGreat

namespace Go.Proofs.YtopbbjdembnfdaaGreat
open Go
set_option maxRecDepth 10000

def LeadR (R : List RecL) : Prop := ∀ r ∈ R, (r.dat.ty = 2 ∨ r.dat.ty = 5 ∨ r.dat.ty = 39) → r.dat.names ≠ []
theorem datC_ty {R : List RecL} {n : Nm} {t : Int} {d : DatL} (h : d ∈ datC R n t) : d.ty = t := by
 unfold datC at h
 obtain ⟨x, hx, rfl⟩ := List.mem_map.1 h
 have := ofC_is x hx
 unfold isL at this
 simp only [Bool.and_eq_true, decide_eq_true_eq] at this
 exact this.1.symm
theorem lead_names {R : List RecL} (hR : GoodR R) (hL : LeadR R) {n : Nm} {t : Int} (ht : t = 2 ∨ t = 5 ∨ t = 39) {d : DatL} (h : d ∈ datC R n t) : ∃ h t, d.names = h :: t ∧ NmG h := by
 have hty := datC_ty h
 obtain ⟨r, hr, rfl⟩ := datC_mem h
 have hne := hL r hr (by rw [hty]; exact ht)
 cases hn : r.dat.names with
 | nil => exact absurd hn hne
 | cons a l => exact ⟨a, l, rfl, hR r hr a (by rw [hn]; exact List.mem_cons_self ..)⟩
theorem toN_one {t : Int} (ht : leads t = true) {d : DatL} {h : Nm} {tl : List Nm} (hn : d.names = h :: tl) : toN t [d] = h := by
 unfold toN hostsL targetsL
 rw [if_pos ht]
 simp [hn, hostsG]
theorem dat_name {w0 w : World} (hE : Ext w0 w) {a : Addr} {cs : List Value} {d : DatL} (hc : cellsO w (some a) 5 = some cs) (hd : DatAt w0 cs d) {h : Nm} {tl : List Nm} (hn : d.names = h :: tl) :
  ∃ xN m cn hv, cellO w (adr (some a) 1) = some (.slice (some xN) m cn) ∧ 0 < m ∧ cellO w (some xN) = some hv ∧ Row w0 hv (h.map vs) := by
 obtain ⟨nm, nu, tx, rw', hcs, n1, _⟩ := hd.ex
 obtain ⟨vals, ⟨an, cn, rfl, hcn, hgn⟩, hvl, hvr⟩ := n1
 have hvl1 : 0 < vals.length := by rw [hvl, hn]; simp
 obtain ⟨xN, rfl⟩ := Option.isSome_iff_exists.1 (some_of_cellO (hgn 0 hvl1))
 refine ⟨xN, vals.length, cn, vals[0], cell_of_cells hc (j := 1) (by rw [hcs]; rfl), hvl1, ?_, ?_⟩
 ·have := cellO_ext hE (hgn 0 hvl1)
  rwa [adr_zero] at this
 ·have := hvr 0 hvl1 (by rw [hn]; simp)
  simpa [hn] using this

set_option maxHeartbeats 1000000 in
theorem RAt_ok {w0 w : World} {ov lv nv : Value} {o n : Nm} {R : List RecL} {t : Int} {wild : Bool} (hz : ZnAt w0 w ov lv o R) (hs : SortR R) (hR : GoodR R) (hL : LeadR R) (hn : Row w nv (n.map vs)) (mn : NmS n) :
  Fn Tryz.prog 73 #[.agg #[ov, lv], nv, vi t, .bool wild] w (fun v w' => Ext w w' ∧ ∃ cs, v = .agg cs.toArray ∧ ResB w0 w.heap.size w' cs (atL R n t wild)) := by
 obtain ⟨ao, co, hov, _⟩ := id hz.org
 obtain ⟨al, cl, hlv, _⟩ := hz.recs.open
 rw [hov, hlv]
 refine enter Tryz.func73 Tryz.ntmps73 rfl rfl ?_
 repeat refine c_r ?_
 refine rg0 ?_
 repeat refine c_r ?_
 rw [← hov, ← hlv]
 rw [new_size]
 refine W_alloc2 ?_
 intro w1 hE1 hs1 hA hC
 have d2 := sv_cells (n := 2) (l := [ov, lv]) hA rfl
 have hz1 := hz.ext hE1
 have nl := mn.len
 refine rq ?_; intro gd K hgd hK
 try simp (disch := first | omega | assumption | rfl) only [↓reduceIte, go_sem, Nat.reduceLT, Nat.reduceEqDiff, Nat.reduceSub, d2]
 refine Fn.mono (RDatas_ok hz1 hs (hn.ext hE1) mn.lb (by omega)) ?_
 rintro dv w2 ⟨hE2, hdv, hdb⟩
 obtain ⟨ad, cd, hdv', hcd, _⟩ := hdv.open
 try simp (disch := first | omega | assumption | rfl) only [↓reduceIte, go_sem, Nat.reduceLT, Nat.reduceEqDiff, Nat.reduceSub]
 refine hK _ _ ?_; clear hK hgd; clear K; try clear gd
 have hEw2 := hE1.trans hE2
 have hC2 := Ext.at hE2 hC
 have e2 := hE2.size
 have l1 := datC_len (R := R) (n := n) (t := t)
 have l5 := datC_len (R := R) (n := n) (t := 5)
 have rl := hz.rl
 repeat refine c_r ?_
 refine rg1 hdv' ?_
 repeat refine c_r ?_
 refine wc0 ?_ ?_
 ·intro hlt
  simp only [decide_eq_true_eq] at hlt
  have hne : datC R n t ≠ [] := List.length_pos_iff.1 (by omega)
  have hat : atL R n t wild = ⟨1, datC R n t, [], wild, []⟩ := by unfold atL; rw [if_pos hne]
  repeat refine c_r ?_
  refine rq ?_; intro gd K hgd hK
  try simp (disch := first | omega | assumption | rfl) only [↓reduceIte, go_sem, Nat.reduceLT, Nat.reduceEqDiff, Nat.reduceSub]
  refine ⟨by kernel_rfl, ?_⟩
  rw [show bdV Tryz.prog 39 [(0, vi 1), (1, .slice ad (datC R n t).length cd), (3, .bool wild)] = some (.agg #[vi 1, .slice ad (datC R n t).length cd, .slice Option.none 0 0, .bool wild, .slice Option.none 0 0]) from by kernel_rfl]
  try simp (disch := first | omega | assumption | rfl) only [↓reduceIte, go_sem, Nat.reduceLT, Nat.reduceEqDiff, Nat.reduceSub]
  refine sv_all (P := Tryz.prog) (t := 39) (l := [vi 1, .slice ad (datC R n t).length cd, .slice Option.none 0 0, .bool wild, .slice Option.none 0 0]) hC2 rfl (fun v h => by simp at h; rcases h with rfl | rfl | rfl | rfl | rfl <;> rfl) rfl rfl ?_
  intro z hz' hbz hkz
  try simp (disch := first | omega | assumption | rfl) only [↓reduceIte, go_sem, Nat.reduceLT, Nat.reduceEqDiff, Nat.reduceSub]
  refine hK _ _ ?_; clear hK hgd; clear K; try clear gd
  repeat refine c_r ?_
  refine ret_any (.inr rfl) Tryz.ntmps73 rfl (res_agg (x := ⟨w.heap.size + 1, 0, Option.none⟩) (k := 5) (vq0) rfl rfl (sv_cells hbz rfl) res_nil) ?_
  refine ⟨Keep.to_ext hEw2 rfl (fun b hb => by omega) hkz, _, rfl, ?_⟩
  rw [hat]
  refine ⟨_, _, _, rfl, ?_, ?_, .inr (nil_row _), Rows.nil _ _ _, BlkB.nil⟩
  ·rw [← hdv']
   exact hdv.keep hkz hdb (fun b hb _ => by omega)
  ·rw [← hdv']
   exact (hdb.ext (by omega)).mono (by omega)
 ·intro hlt
  simp only [decide_eq_false_iff_not] at hlt
  have hnil : datC R n t = [] := List.length_eq_zero_iff.1 (by omega)
  have hne : ¬ datC R n t ≠ [] := fun h => h hnil
  have d2' := cellsO_ext hE2 d2
  repeat refine c_r ?_
  refine rq ?_; intro gd K hgd hK
  try simp (disch := first | omega | assumption | rfl) only [↓reduceIte, go_sem, Nat.reduceLT, Nat.reduceEqDiff, Nat.reduceSub, d2']
  refine Fn.mono (RDatas_ok (hz.ext hEw2) hs (hn.ext hEw2) mn.lb (by omega)) ?_
  rintro fv w5 ⟨hE6, hfv, hfb⟩
  obtain ⟨af, cf, hfv', hcf, hgf⟩ := hfv.open
  try simp (disch := first | omega | assumption | rfl) only [↓reduceIte, go_sem, Nat.reduceLT, Nat.reduceEqDiff, Nat.reduceSub]
  refine hK _ _ ?_; clear hK hgd; clear K; try clear gd
  have hC5 := Ext.at hE6 hC2
  have e6 := hE6.size
  have hEw5 := hEw2.trans hE6
  repeat refine c_r ?_
  refine rg1 hfv' ?_
  repeat refine c_r ?_
  refine wc0 ?_ ?_
  ·intro hlt5
   simp only [decide_eq_true_eq] at hlt5
   have hpos : 0 < (datC R n 5).length := by omega
   have hne5 : datC R n 5 ≠ [] := List.length_pos_iff.1 hpos
   have hat : atL R n t wild = ⟨5, (datC R n 5).take 1, toN 5 ((datC R n 5).take 1), wild, []⟩ := by unfold atL; rw [if_neg hne, if_pos hne5]
   obtain ⟨d0, l0, hd0⟩ : ∃ d0 l0, datC R n 5 = d0 :: l0 := by
    cases h : datC R n 5 with
    | nil => exact absurd h hne5
    | cons a l => exact ⟨a, l, rfl⟩
   obtain ⟨h, tl, hnames, hNm⟩ := lead_names hR hL (.inr (.inl rfl)) (d := d0) (n := n) (t := 5) (by rw [hd0]; exact List.mem_cons_self ..)
   have htk : (datC R n 5).take 1 = [d0] := by rw [hd0]; rfl
   have hto : toN 5 ((datC R n 5).take 1) = h := by rw [htk]; exact toN_one (by decide) hnames
   obtain ⟨c0, hc0, hD0⟩ := hgf 0 hpos
   have hg0 : (datC R n 5)[0] = d0 := by simp only [hd0]; rfl
   rw [hg0] at hD0
   obtain ⟨xf, rfl⟩ := Option.isSome_iff_exists.1 (cellsO_some hc0)
   rw [Nat.zero_mul, adr_zero] at hc0
   obtain ⟨xN, m, cn, hv, g1, gm, g2, g3⟩ := dat_name (hz.e0.trans hEw5) hc0 hD0 hnames
   have gm' : (0 : Int) < (m : Int) := by omega
   have hz0 : (0 : Int) ≤ 0 := by omega
   have h01 : (0 : Int) ≤ 1 := by omega
   have h11 : (1 : Int) ≤ (cf : Int) := by omega
   have t1 : Int.toNat 1 = 1 := rfl
   have hlt5' : (0 : Int) < ((datC R n 5).length : Int) := by omega
   obtain ⟨oa, oc, how, _⟩ := id g3
   obtain ⟨on, hon⟩ : ∃ on, (h.map vs).length = on := ⟨_, rfl⟩
   rw [hon] at how
   repeat refine c_r ?_
   refine W_drw (fun i => i == 10) [(0, true), (1, true), (2, true), (3, true), (4, true), (5, true), (6, true), (7, true), (8, true), (9, true), (10, false)] NoS mixed (by kernel_rfl) ?_; intro gd K x hgd hx hxe hK; clear hxe
   have g1x := cellO_ext hx g1
   have g2x := cellO_ext hx g2
   simp (disch := first | omega | assumption | rfl) only [↓reduceIte, go_sem, Nat.reduceLT, Nat.reduceEqDiff, Nat.reduceSub, g1x, g2x, h01, h11, t1, gm', hz0, hlt5', Nat.sub_zero, Nat.zero_mul, adr_zero, ite_self, Int.toNat_zero]
   refine ⟨by kernel_rfl, ?_⟩
   rw [how, show bdV Tryz.prog 39 [(0, vi 5), (1, .slice (some xf) 1 cf), (2, .slice oa on oc), (3, .bool wild)] = some (.agg #[vi 5, .slice (some xf) 1 cf, .slice oa on oc, .bool wild, .slice Option.none 0 0]) from by kernel_rfl]
   simp (disch := first | omega | assumption | rfl) only [↓reduceIte, go_sem, Nat.reduceLT, Nat.reduceEqDiff, Nat.reduceSub]
   refine sv_all (P := Tryz.prog) (t := 39) (l := [vi 5, .slice (some xf) 1 cf, .slice oa on oc, .bool wild, .slice Option.none 0 0]) (Ext.at hx hC5) rfl (fun v h => by simp at h; rcases h with rfl | rfl | rfl | rfl | rfl <;> rfl) rfl rfl ?_
   intro z hz' hbz hkz
   refine ⟨.inl rfl, ?_⟩
   simp (disch := first | omega | assumption | rfl) only [↓reduceIte, go_sem, Nat.reduceLT, Nat.reduceEqDiff, Nat.reduceSub]
   refine hK _ _ ?_; clear hK hgd; clear K; try clear gd
   repeat refine c_r ?_
   refine ret_any (.inr rfl) Tryz.ntmps73 rfl (res_agg (x := ⟨w.heap.size + 1, 0, Option.none⟩) (k := 5) (vq0) rfl rfl (sv_cells hbz rfl) res_nil) ?_
   have hxs := hx.size
   have hEz : Ext w z := Keep.to_ext (hEw5.trans hx) rfl (fun b hb => by omega) hkz
   refine ⟨hEz, _, rfl, ?_⟩
   rw [hat, hto, htk]
   have hfv1 : Rows 5 (DatAt w0) w5 (.slice (some xf) 1 cf) [d0] := by
    have h2 := hfv
    rw [hfv'] at h2
    have h1 := h2.take (m := 1) (c2 := cf) (by omega) (by omega)
    rw [htk] at h1
    exact h1
   rw [hfv'] at hfb
   refine ⟨_, _, _, rfl, ?_, ?_, .inr ?_, Rows.nil _ _ _, BlkB.nil⟩
   ·exact (hfv1.ext hx).keep hkz (BlkB.same (hfb.ext hx.size)) (fun b hb _ => by omega)
   ·exact ((BlkB.same (hfb.ext hx.size)).ext (by omega)).mono (by omega)
   ·rw [← how]
    exact g3
  ·intro hlt5
   simp only [decide_eq_false_iff_not] at hlt5
   have hne5 : ¬ datC R n 5 ≠ [] := fun h => by have := List.length_pos_iff.2 h; omega
   have hat : atL R n t wild = ⟨2, [], [], wild, []⟩ := by unfold atL; rw [if_neg hne, if_neg hne5]
   repeat refine c_r ?_
   refine rq ?_; intro gd K hgd hK
   try simp (disch := first | omega | assumption | rfl) only [↓reduceIte, go_sem, Nat.reduceLT, Nat.reduceEqDiff, Nat.reduceSub]
   refine ⟨by kernel_rfl, ?_⟩
   rw [show bdV Tryz.prog 39 [(0, vi 2), (3, .bool wild)] = some (.agg #[vi 2, .slice Option.none 0 0, .slice Option.none 0 0, .bool wild, .slice Option.none 0 0]) from by kernel_rfl]
   try simp (disch := first | omega | assumption | rfl) only [↓reduceIte, go_sem, Nat.reduceLT, Nat.reduceEqDiff, Nat.reduceSub]
   refine sv_all (P := Tryz.prog) (t := 39) (l := [vi 2, .slice Option.none 0 0, .slice Option.none 0 0, .bool wild, .slice Option.none 0 0]) hC5 rfl (fun v h => by simp at h; rcases h with rfl | rfl | rfl | rfl | rfl <;> rfl) rfl rfl ?_
   intro z hz' hbz hkz
   try simp (disch := first | omega | assumption | rfl) only [↓reduceIte, go_sem, Nat.reduceLT, Nat.reduceEqDiff, Nat.reduceSub]
   refine hK _ _ ?_; clear hK hgd; clear K; try clear gd
   repeat refine c_r ?_
   refine ret_any (.inr rfl) Tryz.ntmps73 rfl (res_agg (x := ⟨w.heap.size + 1, 0, Option.none⟩) (k := 5) (vq0) rfl rfl (sv_cells hbz rfl) res_nil) ?_
   refine ⟨Keep.to_ext hEw5 rfl (fun b hb => by omega) hkz, _, rfl, ?_⟩
   rw [hat]
   exact ⟨_, _, _, rfl, Rows.nil _ _ _, BlkB.nil, .inr (nil_row _), Rows.nil _ _ _, BlkB.nil⟩
end Go.Proofs.YtopbbjdembnfdaaGreat

namespace Go.Proofs.YtopbbjdembnfdaaGreat
open Go
set_option maxRecDepth 10000

theorem has_dat {R : List RecL} (hs : SortR R) {n : Nm} {t : Int} : hasL R n t = true ↔ datC R n t ≠ [] := by
 rw [← datC_ne, ofC_sorted hs]
 unfold hasL
 rw [List.any_eq_true, ne_eq, List.filter_eq_nil_iff]
 constructor
 ·rintro ⟨x, hx, h⟩ h2
  exact h2 x hx h
 ·intro h
  apply Classical.byContradiction
  intro h2
  exact h fun x hx h3 => h2 ⟨x, hx, h3⟩

structure ResN (w0 wn : World) (B : Nat) (w : World) (cs : List Value) (r : ResL) : Prop where
 ex : ∃ dv nv gv, cs = [vi r.kind, dv, nv, .bool r.wild, gv] ∧ Rows 5 (DatAt w0) w dv r.data ∧ BlkB B w dv ∧ ((Row w nv (r.name.map vs) ∧ BlkB B w nv) ∨ Row wn nv (r.name.map vs)) ∧ Rows 2 (GlB w0 B w) w gv r.glue ∧ BlkB B w gv
theorem ResB.n {w0 wn w : World} {B : Nat} {cs : List Value} {r : ResL} (h : ResB w0 B w cs r) (hE : Ext w0 wn) : ResN w0 wn B w cs r := by
 obtain ⟨dv, nv, gv, e, h1, h2, h3, h4, h5⟩ := h.ex
 exact ⟨dv, nv, gv, e, h1, h2, h3.imp id (fun h => h.ext hE), h4, h5⟩
theorem ResN.keep {w0 wn w x : World} {B : Nat} {cs : List Value} {r : ResL} (h : ResN w0 wn B w cs r) {S : Nat → Prop} (hk : Keep S w x) (hS : ∀ b, B ≤ b → b < w.heap.size → ¬ S b) : ResN w0 wn B x cs r := by
 obtain ⟨dv, nv, gv, e, h1, h2, h3, h4, h5⟩ := h.ex
 refine ⟨dv, nv, gv, e, h1.keep hk h2 hS, h2.ext hk.size, ?_, (h4.keep hk h5 hS).to fun cs y hy => ?_, h5.ext hk.size⟩
 ·rcases h3 with ⟨h3, h6⟩ | h3
  ·exact .inl ⟨h3.blocks fun a n c hv => hk.block _ (h6 a n c hv).2 (hS _ (h6 a n c hv).1 (h6 a n c hv).2), h6.ext hk.size⟩
  ·exact .inr h3
 ·obtain ⟨hv, dv, e, g1, g2, g3⟩ := hy
  exact ⟨hv, dv, e, g1, g2.keep hk g3 hS, g3.ext hk.size⟩
theorem ResN.at {w0 wn w : World} {B : Nat} {cs : List Value} {r : ResL} (h : ResN w0 wn B w cs r) (hE : Ext wn w) : ResAt w0 w cs r := by
 obtain ⟨dv, nv, gv, e, h1, h2, h3, h4, h5⟩ := h.ex
 refine ⟨dv, nv, gv, e, h1, ?_, h4.to fun cs y hy => ?_⟩
 ·rcases h3 with ⟨h3, _⟩ | h3
  ·exact h3
  ·exact h3.ext hE
 ·obtain ⟨hv, dv, e, g1, g2, _⟩ := hy
  exact ⟨hv, dv, e, g1, g2⟩
theorem ResN.mono {w0 wn w : World} {B B' : Nat} {cs : List Value} {r : ResL} (h : ResN w0 wn B w cs r) (hB : B' ≤ B) : ResN w0 wn B' w cs r := by
 obtain ⟨dv, nv, gv, e, h1, h2, h3, h4, h5⟩ := h.ex
 refine ⟨dv, nv, gv, e, h1, h2.mono hB, h3.imp (fun h => ⟨h.1, h.2.mono hB⟩) id, h4.to fun cs y hy => ?_, h5.mono hB⟩
 obtain ⟨hv, dv, e, g1, g2, g3⟩ := hy
 exact ⟨hv, dv, e, g1, g2, g3.mono hB⟩

set_option maxHeartbeats 2000000 in
theorem RLook_ok {w0 w : World} {ov lv qv : Value} {o q : Nm} {R : List RecL} {t : Int} (hz : ZnAt w0 w ov lv o R) (hs : SortR R) (hR : GoodR R) (hL : LeadR R) (hq : Row w qv (q.map vs)) (mq : NmM q) :
  Fn Tryz.prog 20 #[.agg #[ov, lv], qv, vi t] w (fun v w' => Ext w w' ∧ ∃ cs, v = .agg cs.toArray ∧ ResN w0 w w.heap.size w' cs (lookL o R q t)) := by
 obtain ⟨ao, co, hov, _⟩ := id hz.org
 obtain ⟨al, cl, hlv, _⟩ := hz.recs.open
 obtain ⟨aq, cq, hqv, hcq, hgq⟩ := id hq
 simp only [List.length_map] at hov hqv hcq hgq
 have ql := mq.len
 have hol := hz.ol
 have rl := hz.rl
 rw [hov, hlv, hqv]
 refine enter Tryz.func20 Tryz.ntmps20 rfl rfl ?_
 repeat refine c_r ?_
 refine rg0 ?_
 repeat refine c_r ?_
 rw [← hlv]
 rw [new_size]
 refine W_alloc2 ?_
 intro w1 hE1 hs1 hA hC
 rw [← hov] at hA
 have d2 := sv_cells (n := 2) (l := [ov, lv]) hA rfl
 have p0 : cellO w1 (some ⟨w.heap.size, 0, Option.none⟩) = some ov := cellO_at hA rfl
 rw [hov] at p0
 have hz1 := hz.ext hE1
 have hq1 := hq.ext hE1
 rw [hqv] at hq1
 have ho1 := hz1.org
 rw [hov] at ho1
 refine rq ?_; intro gd K hgd hK
 try simp (disch := first | omega | assumption | rfl) only [↓reduceIte, go_sem, Nat.reduceLT, Nat.reduceEqDiff, Nat.reduceSub, p0, Nat.add_zero]
 refine Fn.mono (RUnder_ok w1 _ _ _ _ hq1 ho1 mq.s.lb hz.lb (by omega) (by omega)) ?_
 rintro _ w2 ⟨rfl, hE2⟩
 try simp (disch := first | omega | assumption | rfl) only [↓reduceIte, go_sem, Nat.reduceLT, Nat.reduceEqDiff, Nat.reduceSub]
 refine hK _ _ ?_; clear hK hgd; clear K; try clear gd
 have hE12 := hE1.trans hE2
 have hC2 := Ext.at hE2 hC
 by_cases hu : under q o = true
 rotate_left
 ·have hu' : under q o = false := by simpa using hu
  have hlk : lookL o R q t = ⟨7, [], [], false, []⟩ := by unfold lookL; rw [if_pos hu']
  rw [hu']
  repeat refine c_r ?_
  refine W_cond (t := true) (vr0) ?_ (fun h => by cases h)
  intro _
  repeat refine c_r ?_
  refine rq ?_; intro gd K hgd hK
  try simp (disch := first | omega | assumption | rfl) only [↓reduceIte, go_sem, Nat.reduceLT, Nat.reduceEqDiff, Nat.reduceSub]
  refine ⟨by kernel_rfl, ?_⟩
  rw [show bdV Tryz.prog 39 [(0, vi 7)] = some (.agg #[vi 7, .slice Option.none 0 0, .slice Option.none 0 0, .bool false, .slice Option.none 0 0]) from by kernel_rfl]
  try simp (disch := first | omega | assumption | rfl) only [↓reduceIte, go_sem, Nat.reduceLT, Nat.reduceEqDiff, Nat.reduceSub]
  refine sv_all (P := Tryz.prog) (t := 39) (l := [vi 7, .slice Option.none 0 0, .slice Option.none 0 0, .bool false, .slice Option.none 0 0]) hC2 rfl (fun v h => by simp at h; rcases h with rfl | rfl | rfl | rfl | rfl <;> rfl) rfl rfl ?_
  intro z hz' hbz hkz
  try simp (disch := first | omega | assumption | rfl) only [↓reduceIte, go_sem, Nat.reduceLT, Nat.reduceEqDiff, Nat.reduceSub]
  refine hK _ _ ?_; clear hK hgd; clear K; try clear gd
  repeat refine c_r ?_
  refine ret_any (.inr rfl) Tryz.ntmps20 rfl (res_agg (x := ⟨w.heap.size + 1, 0, Option.none⟩) (k := 5) (vq0) rfl rfl (sv_cells hbz rfl) res_nil) ?_
  exact ⟨Keep.to_ext hE12 rfl (fun b hb => by omega) hkz, _, rfl, by rw [hlk]; exact ⟨_, _, _, rfl, Rows.nil _ _ _, BlkB.nil, .inr (nil_row _), Rows.nil _ _ _, BlkB.nil⟩⟩
 rw [hu]
 have hle := under_len hu
 have hlkS : ∀ r, goL o R q (downs o q) = some r → lookL o R q t = r := fun r h => by
  unfold lookL
  rw [hu, if_neg (by decide), h]
 have hlkE : goL o R q (downs o q) = Option.none → existsL o R q = true → lookL o R q t = atL R q t false := fun h h2 => by
  unfold lookL
  rw [hu, if_neg (by decide), h]
  simp only [h2, if_true]
 have hlkW : goL o R q (downs o q) = Option.none → existsL o R q = false → ∀ s, sourceL o R q = some s → lookL o R q t = atL R s t true := fun h h2 s h3 => by
  unfold lookL
  rw [hu, if_neg (by decide), h]
  simp only [h2, h3, Bool.false_eq_true, if_false]
 have hlkN : goL o R q (downs o q) = Option.none → existsL o R q = false → sourceL o R q = Option.none → lookL o R q t = ⟨3, [], [], false, []⟩ := fun h h2 h3 => by
  unfold lookL
  rw [hu, if_neg (by decide), h]
  simp only [h2, h3, Bool.false_eq_true, if_false]
 have hdn : downs o q = downF q (q.length - o.length) := by unfold downs; rw [if_pos hle]
 repeat refine c_r ?_
 refine W_cond (t := false) (vr0) (fun h => by cases h) ?_
 intro _
 have p02 := cellO_ext hE2 p0
 repeat refine c_r ?_
 refine rg2 p02 Nat.add_zero ?_
 repeat refine c_r ?_
 have hK : (q.length : Int) - (o.length : Int) = ((q.length - o.length : Nat) : Int) := by omega
 refine W_mono (Q := fun e σ' ds' v' => (e = .exit 0 ∧ ds' = [] ∧ σ' 1 = .slice aq q.length cq ∧ σ' 2 = vi t ∧ σ' 3 = .pointer (some ⟨w.heap.size, 0, Option.none⟩) ∧ σ' 6 = .pointer (some ⟨w.heap.size + 1, 0, Option.none⟩) ∧ Ext w2 v' ∧ goL o R q (downs o q) = Option.none) ∨
   (e = .ret ∧ ds' = [] ∧ σ' 6 = .pointer (some ⟨w.heap.size + 1, 0, Option.none⟩) ∧ Ext w v' ∧ ∃ r cs, goL o R q (downs o q) = some r ∧ v'.heap[w.heap.size + 1]? = some (.cells cs.toArray 39 (0, 0)) ∧ ResN w0 w (w.heap.size + 2) v' cs r)) ?_ ?_
 ·refine W_loop (fun m σ ds A => ds = [] ∧ ∃ (i : Int), i + 1 ≤ (m : Int) ∧ σ 7 = vi i ∧ ((i = -1 ∧ goL o R q (downs o q) = Option.none) ∨ ∃ k : Nat, i = k ∧ k ≤ q.length - o.length ∧ goL o R q (downs o q) = goL o R q (downF q k)) ∧ σ 1 = .slice aq q.length cq ∧ σ 2 = vi t ∧ σ 3 = .pointer (some ⟨w.heap.size, 0, Option.none⟩) ∧ σ 6 = .pointer (some ⟨w.heap.size + 1, 0, Option.none⟩) ∧ Ext w2 A) (q.length + 1) ?_ ?_
  ·exact ⟨rfl, (q.length : Int) - (o.length : Int), by omega, vq0, .inr ⟨q.length - o.length, hK, Nat.le_refl _, by rw [hdn]⟩, vq0, vq0, vq0, vq0, Keep.refl _ _⟩
  rintro m σ ds A ⟨rfl, i, him, h7, hir, h1, h2, h3, h6, hEA⟩
  have hwA := hE12.trans hEA
  repeat refine c_r ?_
  refine rg1 h7 ?_
  repeat refine c_r ?_
  refine wc0 ?_ ?_
  rotate_left
  ·intro hge
   simp only [decide_eq_false_iff_not, ge_iff_le] at hge
   repeat refine c_r ?_
   refine .inl ⟨rfl, rfl, (vq1 h1), (vq1 h2), (vq1 h3), (vq1 h6), hEA, ?_⟩
   rcases hir with ⟨_, h⟩ | ⟨k, rfl, _⟩
   ·exact h
   ·omega
  intro hge
  simp only [decide_eq_true_eq, ge_iff_le] at hge
  rcases hir with ⟨rfl, _⟩ | ⟨k, rfl, hkK, hgo⟩
  ·omega
  have hk1 : (k : Int) ≤ (q.length : Int) := by omega
  have hrow : Row w (.slice (if cq = k then aq else adr aq k) (q.length - k) (cq - k)) ((q.drop k).map vs) := by
   have := Row.tail (l := q.map vs) (by simp) hcq (by simpa using hgq) (lo := k) (by omega)
   rw [← List.map_drop] at this
   simpa using this
  obtain ⟨x, hx⟩ : ∃ x, q.drop k = x := ⟨_, rfl⟩
  obtain ⟨xv, hxv⟩ : ∃ xv, (.slice (if cq = k then aq else adr aq k) (q.length - k) (cq - k) : Value) = xv := ⟨_, rfl⟩
  have mx : NmM x := hx ▸ mq.drop k
  have hux : under q x = true := by rw [← hx]; exact under_drop (by omega)
  have hxl : x.length = q.length - k := by rw [← hx, List.length_drop]
  obtain ⟨lx, hlx, hlj⟩ : ∃ lx, downF q k = x :: lx ∧ (k = 0 ∨ ∃ j, k = j + 1 ∧ lx = downF q j) := by
   rw [← hx]
   cases k with
   | zero => exact ⟨[], rfl, .inl rfl⟩
   | succ j => exact ⟨downF q j, rfl, .inr ⟨j, rfl, rfl⟩⟩
  rw [hlx] at hgo
  have hgx : ∀ l, (cutP o R x = false → k = 0 → goL o R q (x :: l) = Option.none) := fun l h1 h2 => by
   simp only [goL]
   rw [h1, if_neg Bool.false_ne_true, if_pos (hxl.trans (by rw [h2, Nat.sub_zero]))]
  rw [hx, hxv] at hrow
  have hxA := hrow.ext hwA
  have hzA := hz.ext hwA
  have d2A := cellsO_ext (hE2.trans hEA) d2
  have p0A := cellO_ext (hE2.trans hEA) p0
  have hCA := Ext.at (hE2.trans hEA) hC
  have sA := (hE2.trans hEA).size
  repeat refine c_r ?_
  refine rq ?_; intro gd K hgd hK
  try simp (disch := first | omega | assumption | rfl) only [↓reduceIte, go_sem, Nat.reduceLT, Nat.reduceEqDiff, Nat.reduceSub, h7, h1, hge, hk1]
  rw [hxv]
  refine hK _ _ ?_; clear hK hgd; clear K; try clear gd
  repeat refine c_r ?_
  refine W_mono (Q := fun e σ' ds' v' => e = .normal ∧ ds' = [] ∧ σ' 8 = xv ∧ σ' 7 = vi k ∧ σ' 1 = .slice aq q.length cq ∧ σ' 2 = vi t ∧ σ' 3 = .pointer (some ⟨w.heap.size, 0, Option.none⟩) ∧ σ' 6 = .pointer (some ⟨w.heap.size + 1, 0, Option.none⟩) ∧ Ext A v' ∧ σ' 46 = .bool (cutP o R x)) ?_ ?_
  ·by_cases hl : (k : Int) < (q.length : Int) - (o.length : Int)
   ·refine rq ?_; intro gd K hgd hK
    have hg8 : ∀ n σ b, wantV gd n σ (some (8, b)) = boolIs (ev n σ (.tmp 42)) b := (fun n σ b => by rw [wantV_some, show gd 8 = some 42 from (by rw [hgd]; rfl)]; rfl)
    try simp (disch := first | omega | assumption | rfl) only [↓reduceIte, go_sem, Nat.reduceLT, Nat.reduceEqDiff, Nat.reduceSub, h7, h1, h3, p0A, d2A, decide_eq_true hl, Nat.add_zero, ↓hg8]
    refine Fn.mono (RHas_ok hzA hxA mx.s.lb (by have := mx.len; omega)) ?_
    rintro _ Y ⟨rfl, hY⟩
    try simp (disch := first | omega | assumption | rfl) only [↓reduceIte, go_sem, Nat.reduceLT, Nat.reduceEqDiff, Nat.reduceSub]
    refine hK _ _ ?_; clear hK hgd; clear K; try clear gd
    refine ⟨rfl, rfl, vq0, (vq1 h7), (vq1 h1), (vq1 h2), (vq1 h3), (vq1 h6), hY, ?_⟩
    rw [show cutP o R x = hasL R x 2 from by unfold cutP; rw [show decide (o.length < x.length) = true from decide_eq_true (by omega), Bool.true_and]]
    first | (simp only [↓reduceIte, go_sem, Nat.reduceLT, Nat.reduceEqDiff, Nat.reduceSub]; done) | (simp only [↓reduceIte, go_sem, Nat.reduceLT, Nat.reduceEqDiff, Nat.reduceSub]; rfl)
   ·refine rq ?_; intro gd K hgd hK
    have hg8 : ∀ n σ b, wantV gd n σ (some (8, b)) = boolIs (ev n σ (.tmp 42)) b := (fun n σ b => by rw [wantV_some, show gd 8 = some 42 from (by rw [hgd]; rfl)]; rfl)
    try simp (disch := first | omega | assumption | rfl) only [↓reduceIte, go_sem, Nat.reduceLT, Nat.reduceEqDiff, Nat.reduceSub, h7, h1, h3, p0A, decide_eq_false hl, Nat.add_zero, ↓hg8]
    refine hK _ _ ?_; clear hK hgd; clear K; try clear gd
    refine ⟨rfl, rfl, vq0, (vq1 h7), (vq1 h1), (vq1 h2), (vq1 h3), (vq1 h6), Keep.refl _ _, ?_⟩
    rw [show cutP o R x = false from by unfold cutP; rw [show decide (o.length < x.length) = false from decide_eq_false (by omega), Bool.false_and]]
    first | (simp only [↓reduceIte, go_sem, Nat.reduceLT, Nat.reduceEqDiff, Nat.reduceSub]; done) | (simp only [↓reduceIte, go_sem, Nat.reduceLT, Nat.reduceEqDiff, Nat.reduceSub]; rfl)
  clear h7 h1 h2 h3 h6
  rintro _ σ1 _ Y ⟨rfl, rfl, h8, h7, h1, h2, h3, h6, hY, h46⟩
  have d2Y := cellsO_ext hY d2A
  have hzY := hzA.ext hY
  have hxY := hxA.ext hY
  have hwY := hwA.trans hY
  have hCY := Ext.at hY hCA
  have sY := hY.size
  repeat refine c_r ?_
  refine W_cond (t := cutP o R x) ((vq1 h46)) ?_ ?_
  ·intro ht
   repeat refine c_r ?_
   refine rq ?_; intro gd K hgd hK
   try simp (disch := first | omega | assumption | rfl) only [↓reduceIte, go_sem, Nat.reduceLT, Nat.reduceEqDiff, Nat.reduceSub, h3, h8, d2Y]
   refine Fn.mono (RDatas_ok hzY hs hxY mx.s.lb (by have := mx.len; omega)) ?_
   rintro dv Y1 ⟨hY1, hdv, hdb⟩
   try simp (disch := first | omega | assumption | rfl) only [↓reduceIte, go_sem, Nat.reduceLT, Nat.reduceEqDiff, Nat.reduceSub]
   refine hK _ _ ?_; clear hK hgd; clear K; try clear gd
   obtain ⟨ad, cd, hdv', hcd, _⟩ := hdv.open
   have d2Y1 := cellsO_ext hY1 d2Y
   have sY1 := hY1.size
   have ld := datC_len (R := R) (n := x) (t := 2)
   repeat refine c_r ?_
   refine rq ?_; intro gd K hgd hK
   try simp (disch := first | omega | assumption | rfl) only [↓reduceIte, go_sem, Nat.reduceLT, Nat.reduceEqDiff, Nat.reduceSub, h3, h8, d2Y1]
   refine Fn.mono (RHints_ok (hzY.ext hY1) hs hdv (fun d hd => lead_names hR hL (.inl rfl) hd) (by omega)) ?_
   rintro gv Y2 ⟨hY2, hgv, hgb⟩
   obtain ⟨ag, cg, hgv', hcg, _⟩ := hgv.open
   try simp (disch := first | omega | assumption | rfl) only [↓reduceIte, go_sem, Nat.reduceLT, Nat.reduceEqDiff, Nat.reduceSub]
   obtain ⟨xa, xc, hxe, _⟩ := id hrow
   obtain ⟨xn, hxn⟩ : ∃ xn, (x.map vs).length = xn := ⟨_, rfl⟩
   rw [hxn] at hxe
   have sY2 := hY2.size
   refine ⟨by kernel_rfl, ?_⟩
   rw [hxe, hdv', hgv', show bdV Tryz.prog 39 [(0, vi 4), (1, .slice ad (datC R x 2).length cd), (2, .slice xa xn xc), (4, .slice ag (glueOf R (hostsL 2 (datC R x 2))).length cg)] = some (.agg #[vi 4, .slice ad (datC R x 2).length cd, .slice xa xn xc, .bool false, .slice ag (glueOf R (hostsL 2 (datC R x 2))).length cg]) from by kernel_rfl]
   try simp (disch := first | omega | assumption | rfl) only [↓reduceIte, go_sem, Nat.reduceLT, Nat.reduceEqDiff, Nat.reduceSub, h6]
   refine sv_all (P := Tryz.prog) (t := 39) (l := [vi 4, .slice ad (datC R x 2).length cd, .slice xa xn xc, .bool false, .slice ag (glueOf R (hostsL 2 (datC R x 2))).length cg]) (Ext.at (hY1.trans hY2) hCY) rfl (fun v h => by simp at h; rcases h with rfl | rfl | rfl | rfl | rfl <;> rfl) rfl rfl ?_
   intro z hz' hbz hkz
   try simp (disch := first | omega | assumption | rfl) only [↓reduceIte, go_sem, Nat.reduceLT, Nat.reduceEqDiff, Nat.reduceSub]
   refine hK _ _ ?_; clear hK hgd; clear K; try clear gd
   repeat refine c_r ?_
   refine .inr ⟨rfl, rfl, (vq1 h6), Keep.to_ext (hwY.trans (hY1.trans hY2)) rfl (fun b hb => by omega) hkz, referL R x, _, ?_, hbz, ?_⟩
   ·rw [hgo]
    simp only [goL]
    rw [if_pos ht]
   ·refine ⟨_, _, _, rfl, ?_, ?_, .inr ?_, ?_, ?_⟩
    ·rw [← hdv']
     exact (hdv.ext hY2).keep hkz (hdb.ext hY2.size) (fun b hb _ => by omega)
    ·rw [← hdv']
     exact ((hdb.ext hY2.size).ext (by omega)).mono (by omega)
    ·rw [← hxe]
     exact hrow
    ·rw [← hgv']
     refine (hgv.keep hkz hgb (fun b hb _ => by omega)).to fun cs y hy => ?_
     obtain ⟨hv, dv, e, g1, g2, g3⟩ := hy
     exact ⟨hv, dv, e, g1, g2.keep hkz g3 (fun b hb _ => by omega), (g3.ext (by omega)).mono (by omega)⟩
    ·rw [← hgv']
     exact (hgb.ext (by omega)).mono (by omega)
  intro ht
  have hqY := hq.ext hwY
  rw [hqv] at hqY
  repeat refine c_r ?_
  refine W_mono (Q := fun e σ' ds' v' => e = .normal ∧ ds' = [] ∧ σ' 8 = xv ∧ σ' 7 = vi k ∧ σ' 1 = .slice aq q.length cq ∧ σ' 2 = vi t ∧ σ' 3 = .pointer (some ⟨w.heap.size, 0, Option.none⟩) ∧ σ' 6 = .pointer (some ⟨w.heap.size + 1, 0, Option.none⟩) ∧ Ext Y v' ∧ σ' 62 = .bool (decide (0 < k) && hasL R x 39)) ?_ ?_
  ·by_cases hl : (k : Int) > 0
   ·refine rq ?_; intro gd K hgd hK
    have hg2 : ∀ n σ b, wantV gd n σ (some (2, b)) = boolIs (ev n σ (.tmp 58)) b := (fun n σ b => by rw [wantV_some, show gd 2 = some 58 from (by rw [hgd]; rfl)]; rfl)
    try simp (disch := first | omega | assumption | rfl) only [↓reduceIte, go_sem, Nat.reduceLT, Nat.reduceEqDiff, Nat.reduceSub, h7, h8, h3, d2Y, decide_eq_true hl, ↓hg2]
    refine Fn.mono (RHas_ok hzY hxY mx.s.lb (by have := mx.len; omega)) ?_
    rintro _ Y1 ⟨rfl, hY1⟩
    try simp (disch := first | omega | assumption | rfl) only [↓reduceIte, go_sem, Nat.reduceLT, Nat.reduceEqDiff, Nat.reduceSub]
    refine hK _ _ ?_; clear hK hgd; clear K; try clear gd
    refine ⟨rfl, rfl, (vq1 h8), (vq1 h7), (vq1 h1), (vq1 h2), (vq1 h3), (vq1 h6), hY1, ?_⟩
    rw [show decide (0 < k) = true from decide_eq_true (by omega), Bool.true_and]
    first | (simp only [↓reduceIte, go_sem, Nat.reduceLT, Nat.reduceEqDiff, Nat.reduceSub]; done) | (simp only [↓reduceIte, go_sem, Nat.reduceLT, Nat.reduceEqDiff, Nat.reduceSub]; rfl)
   ·refine rq ?_; intro gd K hgd hK
    have hg2 : ∀ n σ b, wantV gd n σ (some (2, b)) = boolIs (ev n σ (.tmp 58)) b := (fun n σ b => by rw [wantV_some, show gd 2 = some 58 from (by rw [hgd]; rfl)]; rfl)
    try simp (disch := first | omega | assumption | rfl) only [↓reduceIte, go_sem, Nat.reduceLT, Nat.reduceEqDiff, Nat.reduceSub, h7, h8, h3, decide_eq_false hl, ↓hg2]
    refine hK _ _ ?_; clear hK hgd; clear K; try clear gd
    refine ⟨rfl, rfl, (vq1 h8), (vq1 h7), (vq1 h1), (vq1 h2), (vq1 h3), (vq1 h6), Keep.refl _ _, ?_⟩
    rw [show decide (0 < k) = false from decide_eq_false (by omega), Bool.false_and]
    first | (simp only [↓reduceIte, go_sem, Nat.reduceLT, Nat.reduceEqDiff, Nat.reduceSub]; done) | (simp only [↓reduceIte, go_sem, Nat.reduceLT, Nat.reduceEqDiff, Nat.reduceSub]; rfl)
  clear h7 h1 h2 h3 h6 h8
  rintro _ σ2 _ Z ⟨rfl, rfl, h8, h7, h1, h2, h3, h6, hZ, h62⟩
  have d2Z := cellsO_ext hZ d2Y
  have hzZ := hzY.ext hZ
  have hxZ := hxY.ext hZ
  have hqZ := hqY.ext hZ
  have hwZ := hwY.trans hZ
  have hCZ := Ext.at hZ hCY
  have sZ := hZ.size
  repeat refine c_r ?_
  refine W_cond (t := decide (0 < k) && hasL R x 39) ((vq1 h62)) ?_ ?_
  ·intro ht2
   simp only [Bool.and_eq_true, decide_eq_true_eq] at ht2
   have hne : datC R x 39 ≠ [] := (has_dat hs).1 ht2.2
   have ld := datC_len (R := R) (n := x) (t := 39)
   have hpos : 0 < (datC R x 39).length := List.length_pos_iff.2 hne
   repeat refine c_r ?_
   refine rq ?_; intro gd K hgd hK
   try simp (disch := first | omega | assumption | rfl) only [↓reduceIte, go_sem, Nat.reduceLT, Nat.reduceEqDiff, Nat.reduceSub, h3, h8, d2Z]
   refine Fn.mono (RDatas_ok hzZ hs hxZ mx.s.lb (by have := mx.len; omega)) ?_
   rintro dv Z1 ⟨hZ1, hdv, hdb⟩
   obtain ⟨ad, cd, hdv', hcd, hgd2⟩ := hdv.open
   have h01 : (0 : Int) ≤ 1 := by omega
   have h11 : (1 : Int) ≤ (cd : Int) := by omega
   have t1 : Int.toNat 1 = 1 := rfl
   try simp (disch := first | omega | assumption | rfl) only [↓reduceIte, go_sem, Nat.reduceLT, Nat.reduceEqDiff, Nat.reduceSub, hdv', h01, h11, t1, Nat.sub_zero, Nat.zero_mul, adr_zero, ite_self]
   refine hK _ _ ?_; clear hK hgd; clear K; try clear gd
   obtain ⟨d0, l0, hd0⟩ : ∃ d0 l0, datC R x 39 = d0 :: l0 := by
    cases h : datC R x 39 with
    | nil => exact absurd h hne
    | cons a l => exact ⟨a, l, rfl⟩
   obtain ⟨h, tl, hnames, hNm⟩ := lead_names hR hL (.inr (.inr rfl)) (d := d0) (n := x) (t := 39) (by rw [hd0]; exact List.mem_cons_self ..)
   have htk : (datC R x 39).take 1 = [d0] := by rw [hd0]; rfl
   have hto : toN 39 ((datC R x 39).take 1) = h := by rw [htk]; exact toN_one (by decide) hnames
   obtain ⟨c0, hc0, hD0⟩ := hgd2 0 hpos
   have hg0 : (datC R x 39)[0] = d0 := by simp only [hd0]; rfl
   rw [hg0] at hD0
   obtain ⟨xf, rfl⟩ := Option.isSome_iff_exists.1 (cellsO_some hc0)
   rw [Nat.zero_mul, adr_zero] at hc0
   obtain ⟨xN, mN, cn, hv, g1, gm, g2, g3⟩ := dat_name (hz.e0.trans (hwZ.trans hZ1)) hc0 hD0 hnames
   have gm' : (0 : Int) < (mN : Int) := by omega
   have hz0 : (0 : Int) ≤ 0 := by omega
   have h0lt1 : (0 : Int) < 1 := by omega
   have hren : renamedL R q x = if checkN (swapN q x h) = 0 then some ⟨5, [d0], swapN q x h, false, []⟩ else some ⟨6, [], [], false, []⟩ := by
    unfold renamedL
    rw [if_neg hne, hto, htk]
   have hgoR : ∀ r, renamedL R q x = some r → goL o R q (downs o q) = some r := fun r hr => by
    rw [hgo]
    simp only [goL]
    rw [ht, if_neg Bool.false_ne_true, if_neg (by omega), hr]
   have sZ1 := hZ1.size
   repeat refine c_r ?_
   refine rq ?_; intro gd K hgd hK
   try simp (disch := first | omega | assumption | rfl) only [↓reduceIte, go_sem, Nat.reduceLT, Nat.reduceEqDiff, Nat.reduceSub, h1, h8, g1, g2, gm', hz0, h0lt1, Nat.zero_mul, adr_zero, Int.toNat_zero]
   refine Fn.mono (RSwap_ok Z1 _ _ _ q x h (hqZ.ext hZ1) (hxZ.ext hZ1) (g3.ext (hz.e0.trans (hwZ.trans hZ1))) mq mx hNm.m hux) ?_
   rintro sv Z2 ⟨hZ2, hok, hbad⟩
   have hC2' := Ext.at (hZ1.trans hZ2) hCZ
   have sZ2 := hZ2.size
   by_cases hck : checkN (swapN q x h) = 0
   ·obtain ⟨sv, rfl, hsv, hsb⟩ := hok hck
    rw [if_pos hck] at hren
    try simp (disch := first | omega | assumption | rfl) only [↓reduceIte, go_sem, Nat.reduceLT, Nat.reduceEqDiff, Nat.reduceSub]
    refine hK _ _ ?_; clear hK hgd; clear K; try clear gd
    repeat refine c_r ?_
    refine rg0 ?_
    repeat refine c_r ?_
    refine W_cond (t := false) (vr0) (fun h => by cases h) ?_
    intro _
    obtain ⟨sa, sc, hse, _⟩ := id hsv
    obtain ⟨sn, hsn⟩ : ∃ sn, ((swapN q x h).map vs).length = sn := ⟨_, rfl⟩
    rw [hsn] at hse
    repeat refine c_r ?_
    refine rq ?_; intro gd K hgd hK
    try simp (disch := first | omega | assumption | rfl) only [↓reduceIte, go_sem, Nat.reduceLT, Nat.reduceEqDiff, Nat.reduceSub]
    refine ⟨by kernel_rfl, ?_⟩
    rw [hse, show bdV Tryz.prog 39 [(0, vi 5), (1, .slice (some xf) 1 cd), (2, .slice sa sn sc)] = some (.agg #[vi 5, .slice (some xf) 1 cd, .slice sa sn sc, .bool false, .slice Option.none 0 0]) from by kernel_rfl]
    try simp (disch := first | omega | assumption | rfl) only [↓reduceIte, go_sem, Nat.reduceLT, Nat.reduceEqDiff, Nat.reduceSub, h6]
    refine sv_all (P := Tryz.prog) (t := 39) (l := [vi 5, .slice (some xf) 1 cd, .slice sa sn sc, .bool false, .slice Option.none 0 0]) hC2' rfl (fun v h => by simp at h; rcases h with rfl | rfl | rfl | rfl | rfl <;> rfl) rfl rfl ?_
    intro z hz' hbz hkz
    try simp (disch := first | omega | assumption | rfl) only [↓reduceIte, go_sem, Nat.reduceLT, Nat.reduceEqDiff, Nat.reduceSub]
    refine hK _ _ ?_; clear hK hgd; clear K; try clear gd
    repeat refine c_r ?_
    refine .inr ⟨rfl, rfl, (vq1 h6), Keep.to_ext (hwZ.trans (hZ1.trans hZ2)) rfl (fun b hb => by omega) hkz, _, _, hgoR _ hren, hbz, ?_⟩
    have hfv1 : Rows 5 (DatAt w0) Z1 (.slice (some xf) 1 cd) [d0] := by
     have h2 := hdv
     rw [hdv'] at h2
     have h1 := h2.take (m := 1) (c2 := cd) (by omega) (by omega)
     rw [htk] at h1
     exact h1
    rw [hdv'] at hdb
    refine ⟨_, _, _, rfl, ?_, ?_, .inl ⟨?_, ?_⟩, Rows.nil _ _ _, BlkB.nil⟩
    ·exact (hfv1.ext hZ2).keep hkz (BlkB.same (hdb.ext hZ2.size)) (fun b hb _ => by omega)
    ·exact ((BlkB.same (hdb.ext hZ2.size)).ext (by omega)).mono (by omega)
    ·rw [← hse]
     exact hsv.blocks fun a n c hv => hkz.block _ (hsb a n c hv).2 (by have := hsb a n c hv; omega)
    ·rw [← hse]
     exact (hsb.ext (by omega)).mono (by omega)
   ·have hb := hbad hck
    subst hb
    rw [if_neg hck] at hren
    try simp (disch := first | omega | assumption | rfl) only [↓reduceIte, go_sem, Nat.reduceLT, Nat.reduceEqDiff, Nat.reduceSub]
    refine hK _ _ ?_; clear hK hgd; clear K; try clear gd
    repeat refine c_r ?_
    refine rg0 ?_
    repeat refine c_r ?_
    refine W_cond (t := true) (vr0) ?_ (fun h => by cases h)
    intro _
    repeat refine c_r ?_
    refine rq ?_; intro gd K hgd hK
    try simp (disch := first | omega | assumption | rfl) only [↓reduceIte, go_sem, Nat.reduceLT, Nat.reduceEqDiff, Nat.reduceSub]
    refine ⟨by kernel_rfl, ?_⟩
    rw [show bdV Tryz.prog 39 [(0, vi 6)] = some (.agg #[vi 6, .slice Option.none 0 0, .slice Option.none 0 0, .bool false, .slice Option.none 0 0]) from by kernel_rfl]
    try simp (disch := first | omega | assumption | rfl) only [↓reduceIte, go_sem, Nat.reduceLT, Nat.reduceEqDiff, Nat.reduceSub, h6]
    refine sv_all (P := Tryz.prog) (t := 39) (l := [vi 6, .slice Option.none 0 0, .slice Option.none 0 0, .bool false, .slice Option.none 0 0]) hC2' rfl (fun v h => by simp at h; rcases h with rfl | rfl | rfl | rfl | rfl <;> rfl) rfl rfl ?_
    intro z hz' hbz hkz
    try simp (disch := first | omega | assumption | rfl) only [↓reduceIte, go_sem, Nat.reduceLT, Nat.reduceEqDiff, Nat.reduceSub]
    refine hK _ _ ?_; clear hK hgd; clear K; try clear gd
    repeat refine c_r ?_
    exact .inr ⟨rfl, rfl, (vq1 h6), Keep.to_ext (hwZ.trans (hZ1.trans hZ2)) rfl (fun b hb => by omega) hkz, _, _, hgoR _ hren, hbz, ⟨_, _, _, rfl, Rows.nil _ _ _, BlkB.nil, .inr (nil_row _), Rows.nil _ _ _, BlkB.nil⟩⟩
  intro ht2
  repeat refine c_r ?_
  refine rg1 h7 ?_
  repeat refine c_r ?_
  refine ⟨m - 1, by omega, rfl, (k : Int) - 1, by omega, vq0, ?_, (vq1 h1), (vq1 h2), (vq1 h3), (vq1 h6), hEA.trans (hY.trans hZ)⟩
  rcases hlj with rfl | ⟨j, rfl, rfl⟩
  ·exact .inl ⟨by omega, by rw [hgo]; exact hgx _ ht rfl⟩
  ·refine .inr ⟨j, by omega, by omega, ?_⟩
   have hnone : renamedL R q x = Option.none := by
    unfold renamedL
    rw [if_pos]
    apply Classical.byContradiction
    intro h
    rw [show decide (0 < j + 1) = true from decide_eq_true (by omega), (has_dat hs).2 h] at ht2
    cases ht2
   rw [hgo]
   simp only [goL]
   rw [ht, if_neg Bool.false_ne_true, if_neg (by omega), hnone]
 ·rintro e σ1 ds1 A (⟨rfl, rfl, h1, h2, h3, h6, hEA, hgo⟩ | ⟨rfl, rfl, h6, hEw, r, cs, hgo, hb, hres⟩)
  rotate_left
  ·repeat refine c_r ?_
   refine ret_any (.inr rfl) Tryz.ntmps20 rfl (res_agg (x := ⟨w.heap.size + 1, 0, Option.none⟩) (k := 5) ((vq1 h6)) rfl rfl (sv_cells hb ?_) res_nil) ?_
   ·obtain ⟨_, _, _, e, _⟩ := hres.ex
    rw [e]; rfl
   ·exact ⟨hEw, _, rfl, by rw [hlkS r hgo]; exact hres.mono (by omega)⟩
  have hwA := hE12.trans hEA
  have hzA := hz.ext hwA
  have hqA := hq.ext hwA
  rw [hqv] at hqA
  have d2A := cellsO_ext (hE2.trans hEA) d2
  have hCA := Ext.at (hE2.trans hEA) hC
  have sA := (hE2.trans hEA).size
  repeat refine c_r ?_
  refine rq ?_; intro gd K hgd hK
  try simp (disch := first | omega | assumption | rfl) only [↓reduceIte, go_sem, Nat.reduceLT, Nat.reduceEqDiff, Nat.reduceSub, h3, h1, d2A]
  refine Fn.mono (RExists_ok hzA hqA mq.s.lb (by omega)) ?_
  rintro _ Y ⟨rfl, hY⟩
  try simp (disch := first | omega | assumption | rfl) only [↓reduceIte, go_sem, Nat.reduceLT, Nat.reduceEqDiff, Nat.reduceSub]
  refine hK _ _ ?_; clear hK hgd; clear K; try clear gd
  have hzY := hzA.ext hY
  have hqY := hqA.ext hY
  have d2Y := cellsO_ext hY d2A
  have hCY := Ext.at hY hCA
  have hwY := hwA.trans hY
  have sY := hY.size
  repeat refine c_r ?_
  refine W_cond (t := existsL o R q) (vr0) ?_ ?_
  ·intro hex
   repeat refine c_r ?_
   refine rq ?_; intro gd K hgd hK
   try simp (disch := first | omega | assumption | rfl) only [↓reduceIte, go_sem, Nat.reduceLT, Nat.reduceEqDiff, Nat.reduceSub, h3, h1, h2, d2Y]
   refine Fn.mono (RAt_ok hzY hs hR hL hqY mq.s) ?_
   rintro _ Z ⟨hZ, cs, rfl, hres⟩
   have sZ := hZ.size
   try simp (disch := first | omega | assumption | rfl) only [↓reduceIte, go_sem, Nat.reduceLT, Nat.reduceEqDiff, Nat.reduceSub, h6]
   refine sv_all (P := Tryz.prog) (t := 39) (l := cs) (Ext.at hZ hCY) hres.cells.1 hres.cells.2 (by rw [hres.cells.1]; rfl) rfl ?_
   intro z hz' hbz hkz
   try simp (disch := first | omega | assumption | rfl) only [↓reduceIte, go_sem, Nat.reduceLT, Nat.reduceEqDiff, Nat.reduceSub]
   refine hK _ _ ?_; clear hK hgd; clear K; try clear gd
   repeat refine c_r ?_
   refine ret_any (.inr rfl) Tryz.ntmps20 rfl (res_agg (x := ⟨w.heap.size + 1, 0, Option.none⟩) (k := 5) ((vq1 h6)) rfl rfl (sv_cells hbz hres.cells.1.symm) res_nil) ?_
   refine ⟨Keep.to_ext (hwY.trans hZ) rfl (fun b hb => by omega) hkz, _, rfl, ?_⟩
   rw [hlkE hgo hex]
   exact ((hres.n (hz.e0)).keep hkz (fun b hb _ => by omega)).mono (by omega)
  intro hex
  repeat refine c_r ?_
  refine rq ?_; intro gd K hgd hK
  try simp (disch := first | omega | assumption | rfl) only [↓reduceIte, go_sem, Nat.reduceLT, Nat.reduceEqDiff, Nat.reduceSub, h3, h1, d2Y]
  refine Fn.mono (RSource_ok hzY hqY mq.s.lb (by omega)) ?_
  rintro _ Z ⟨hZ, sv, rfl, hsv⟩
  obtain ⟨bb, hbb⟩ : ∃ bb, (sourceL o R q).isSome = bb := ⟨_, rfl⟩
  rw [hbb]
  try simp (disch := first | omega | assumption | rfl) only [↓reduceIte, go_sem, Nat.reduceLT, Nat.reduceEqDiff, Nat.reduceSub]
  refine hK _ _ ?_; clear hK hgd; clear K; try clear gd
  have sZ := hZ.size
  have d2Z := cellsO_ext hZ d2Y
  have hCZ := Ext.at hZ hCY
  repeat refine c_r ?_
  refine rg0 ?_
  repeat refine c_r ?_
  cases bb with
  | true =>
   obtain ⟨s, hso⟩ := Option.isSome_iff_exists.1 hbb
   rw [hso] at hsv
   have hse : s = sourceN o R q := by
    unfold sourceL at hso
    split at hso
    ·cases hso; rfl
    ·cases hso
   have ms : NmS s := hse ▸ star_ok (o := o) (R := R) mq.s (by omega)
   refine W_cond (t := true) (vr0) ?_ (fun h => by cases h)
   intro _
   repeat refine c_r ?_
   refine rq ?_; intro gd K hgd hK
   try simp (disch := first | omega | assumption | rfl) only [↓reduceIte, go_sem, Nat.reduceLT, Nat.reduceEqDiff, Nat.reduceSub, h3, h2, d2Z]
   refine Fn.mono (RAt_ok (hzY.ext hZ) hs hR hL hsv ms) ?_
   rintro _ Z2 ⟨hZ2, cs, rfl, hres⟩
   have sZ2 := hZ2.size
   try simp (disch := first | omega | assumption | rfl) only [↓reduceIte, go_sem, Nat.reduceLT, Nat.reduceEqDiff, Nat.reduceSub, h6]
   refine sv_all (P := Tryz.prog) (t := 39) (l := cs) (Ext.at hZ2 hCZ) hres.cells.1 hres.cells.2 (by rw [hres.cells.1]; rfl) rfl ?_
   intro z hz' hbz hkz
   try simp (disch := first | omega | assumption | rfl) only [↓reduceIte, go_sem, Nat.reduceLT, Nat.reduceEqDiff, Nat.reduceSub]
   refine hK _ _ ?_; clear hK hgd; clear K; try clear gd
   repeat refine c_r ?_
   refine ret_any (.inr rfl) Tryz.ntmps20 rfl (res_agg (x := ⟨w.heap.size + 1, 0, Option.none⟩) (k := 5) ((vq1 h6)) rfl rfl (sv_cells hbz hres.cells.1.symm) res_nil) ?_
   refine ⟨Keep.to_ext ((hwY.trans hZ).trans hZ2) rfl (fun b hb => by omega) hkz, _, rfl, ?_⟩
   rw [hlkW hgo hex s hso]
   exact ((hres.n (hz.e0)).keep hkz (fun b hb _ => by omega)).mono (by omega)
  | false =>
   have hso : sourceL o R q = Option.none := by simpa using hbb
   refine W_cond (t := false) (vr0) (fun h => by cases h) ?_
   intro _
   repeat refine c_r ?_
   refine rq ?_; intro gd K hgd hK
   try simp (disch := first | omega | assumption | rfl) only [↓reduceIte, go_sem, Nat.reduceLT, Nat.reduceEqDiff, Nat.reduceSub]
   refine ⟨by kernel_rfl, ?_⟩
   rw [show bdV Tryz.prog 39 [(0, vi 3)] = some (.agg #[vi 3, .slice Option.none 0 0, .slice Option.none 0 0, .bool false, .slice Option.none 0 0]) from by kernel_rfl]
   try simp (disch := first | omega | assumption | rfl) only [↓reduceIte, go_sem, Nat.reduceLT, Nat.reduceEqDiff, Nat.reduceSub, h6]
   refine sv_all (P := Tryz.prog) (t := 39) (l := [vi 3, .slice Option.none 0 0, .slice Option.none 0 0, .bool false, .slice Option.none 0 0]) hCZ rfl (fun v h => by simp at h; rcases h with rfl | rfl | rfl | rfl | rfl <;> rfl) rfl rfl ?_
   intro z hz' hbz hkz
   try simp (disch := first | omega | assumption | rfl) only [↓reduceIte, go_sem, Nat.reduceLT, Nat.reduceEqDiff, Nat.reduceSub]
   refine hK _ _ ?_; clear hK hgd; clear K; try clear gd
   repeat refine c_r ?_
   refine ret_any (.inr rfl) Tryz.ntmps20 rfl (res_agg (x := ⟨w.heap.size + 1, 0, Option.none⟩) (k := 5) ((vq1 h6)) rfl rfl (sv_cells hbz rfl) res_nil) ?_
   refine ⟨Keep.to_ext (hwY.trans hZ) rfl (fun b hb => by omega) hkz, _, rfl, ?_⟩
   rw [hlkN hgo hex hso]
   exact ⟨_, _, _, rfl, Rows.nil _ _ _, BlkB.nil, .inr (nil_row _), Rows.nil _ _ _, BlkB.nil⟩
end Go.Proofs.YtopbbjdembnfdaaGreat

namespace Go.Proofs.YtopbbjdembnfdaaGreat
open Go
set_option maxRecDepth 10000

theorem ZNew_ok {w0 w : World} (hE0 : Ext w0 w) {ov lv : Value} {o : Nm} {R : List RecL} (ho : Row w ov (o.map vs)) (hl : Rows 7 (RecAt w0) w lv R) (hok : ∀ r ∈ R, RecOk r) (hlen : R.length ≤ 1000000000) :
  Fn Tryz.prog 19 #[ov, lv] w (fun v w' => Ext w w' ∧ ∃ cv, v = .agg #[ov, cv] ∧ Rows 7 (RecAt w0) w' cv (canonL R)) := by
 obtain ⟨ao, co, hov, _⟩ := id ho
 obtain ⟨no, hno⟩ : ∃ no, (o.map vs).length = no := ⟨_, rfl⟩
 rw [hno] at hov
 refine enter Tryz.func19 Tryz.ntmps19 rfl rfl ?_
 repeat refine c_r ?_
 refine rg0 ?_
 repeat refine c_r ?_
 refine W_alloc1 ?_
 intro w1 hE1 hs1 hA
 refine rq ?_; intro gd K hgd hK
 try simp (disch := first | omega | assumption | rfl) only [↓reduceIte, go_sem, Nat.reduceLT, Nat.reduceEqDiff, Nat.reduceSub]
 refine Fn.mono (Canon_ok w0 w1 (hE0.trans hE1) (hl.ext hE1) hok hlen) ?_
 rintro cv w2 ⟨hcv, hE2, hcb⟩
 obtain ⟨ac, cc, hcve, _⟩ := hcv.open
 try simp (disch := first | omega | assumption | rfl) only [↓reduceIte, go_sem, Nat.reduceLT, Nat.reduceEqDiff, Nat.reduceSub]
 refine ⟨by kernel_rfl, ?_⟩
 rw [hov, hcve, show bdV Tryz.prog 34 [(0, .slice ao no co), (1, .slice ac (canonL R).length cc)] = some (.agg #[.slice ao no co, .slice ac (canonL R).length cc]) from by kernel_rfl]
 try simp (disch := first | omega | assumption | rfl) only [↓reduceIte, go_sem, Nat.reduceLT, Nat.reduceEqDiff, Nat.reduceSub]
 refine sv_all (P := Tryz.prog) (t := 34) (l := [.slice ao no co, .slice ac (canonL R).length cc]) (Ext.at hE2 hA) rfl (fun v h => by simp at h; rcases h with rfl | rfl <;> rfl) rfl rfl ?_
 intro z hz' hbz hkz
 try simp (disch := first | omega | assumption | rfl) only [↓reduceIte, go_sem, Nat.reduceLT, Nat.reduceEqDiff, Nat.reduceSub]
 refine hK _ _ ?_; clear hK hgd; clear K; try clear gd
 repeat refine c_r ?_
 refine ret_any (.inr rfl) Tryz.ntmps19 rfl (res_agg (x := ⟨w.heap.size, 0, Option.none⟩) (k := 2) (vq0) rfl rfl (sv_cells hbz rfl) res_nil) ?_
 refine ⟨Keep.to_ext (hE1.trans hE2) rfl (fun b hb => by omega) hkz, .slice ac (canonL R).length cc, by rw [hov]; rfl, ?_⟩
 rw [← hcve]
 exact hcv.keep hkz hcb (fun b hb _ => by omega)
theorem RZNew_ok {w0 w : World} (hE0 : Ext w0 w) {ov lv : Value} {o : Nm} {R : List RecL} (ho : Row w ov (o.map vs)) (hl : Rows 7 (RecAt w0) w lv R) (hok : ∀ r ∈ R, RecOk r) (hlen : R.length ≤ 1000000000) :
  Fn Tryz.prog 21 #[ov, lv] w (fun v w' => Ext w w' ∧ ∃ cv, v = .agg #[ov, cv] ∧ Rows 7 (RecAt w0) w' cv (canonL R)) := by
 obtain ⟨ao, co, hov, _⟩ := id ho
 obtain ⟨no, hno⟩ : ∃ no, (o.map vs).length = no := ⟨_, rfl⟩
 rw [hno] at hov
 refine enter Tryz.func21 Tryz.ntmps21 rfl rfl ?_
 repeat refine c_r ?_
 refine rg0 ?_
 repeat refine c_r ?_
 refine W_alloc1 ?_
 intro w1 hE1 hs1 hA
 refine rq ?_; intro gd K hgd hK
 try simp (disch := first | omega | assumption | rfl) only [↓reduceIte, go_sem, Nat.reduceLT, Nat.reduceEqDiff, Nat.reduceSub]
 refine Fn.mono (RCanon_ok w0 w1 (hE0.trans hE1) (hl.ext hE1) hok hlen) ?_
 rintro cv w2 ⟨hcv, hE2⟩
 obtain ⟨ac, cc, hcve, _⟩ := hcv.rows.open
 try simp (disch := first | omega | assumption | rfl) only [↓reduceIte, go_sem, Nat.reduceLT, Nat.reduceEqDiff, Nat.reduceSub]
 refine ⟨by kernel_rfl, ?_⟩
 rw [hov, hcve, show bdV Tryz.prog 43 [(0, .slice ao no co), (1, .slice ac (canonL R).length cc)] = some (.agg #[.slice ao no co, .slice ac (canonL R).length cc]) from by kernel_rfl]
 try simp (disch := first | omega | assumption | rfl) only [↓reduceIte, go_sem, Nat.reduceLT, Nat.reduceEqDiff, Nat.reduceSub]
 refine sv_all (P := Tryz.prog) (t := 43) (l := [.slice ao no co, .slice ac (canonL R).length cc]) (Ext.at hE2 hA) rfl (fun v h => by simp at h; rcases h with rfl | rfl <;> rfl) rfl rfl ?_
 intro z hz' hbz hkz
 try simp (disch := first | omega | assumption | rfl) only [↓reduceIte, go_sem, Nat.reduceLT, Nat.reduceEqDiff, Nat.reduceSub]
 refine hK _ _ ?_; clear hK hgd; clear K; try clear gd
 repeat refine c_r ?_
 refine ret_any (.inr rfl) Tryz.ntmps21 rfl (res_agg (x := ⟨w.heap.size, 0, Option.none⟩) (k := 2) (vq0) rfl rfl (sv_cells hbz rfl) res_nil) ?_
 refine ⟨Keep.to_ext (hE1.trans hE2) rfl (fun b hb => by omega) hkz, .slice ac (canonL R).length cc, by rw [hov]; rfl, ?_⟩
 rw [← hcve]
 exact hcv.rows.keep hkz hcv.blk (fun b hb _ => by omega)
end Go.Proofs.YtopbbjdembnfdaaGreat

namespace Go.Proofs.YtopbbjdembnfdaaGreat
open Go
set_option maxRecDepth 10000

def goodN (n : Nm) : Bool := few n && decide (checkN n = 0)
theorem checkN_labels {n : Nm} (h : checkN n = 0) : ∀ l ∈ n, l ≠ [] ∧ l.length ≤ 63 := by
 intro l hl
 unfold checkN at h
 cases hf : n.find? (fun l => decide (errL l ≠ 0)) with
 | some x =>
  rw [hf] at h
  have := List.find?_some hf
  simp only [decide_eq_true_eq] at this
  exact absurd h this
 | none =>
  have := List.find?_eq_none.1 hf l hl
  simp only [decide_eq_true_eq, Decidable.not_not] at this
  unfold errL at this
  split at this
  ·cases this
  ·rename_i h0
   refine ⟨h0, ?_⟩
   split at this
   ·cases this
   ·omega
theorem sum_ge : ∀ n : Nm, n.length ≤ (n.map fun l => 1 + l.length).sum
 | [] => Nat.zero_le _
 | a :: n => by
  have ih := sum_ge n
  rw [List.map_cons, List.sum_cons]
  have e : (a :: n).length = n.length + 1 := rfl
  omega
theorem checkN_len {n : Nm} (h : checkN n = 0) : n.length ≤ 255 := by
 have hl := checkN_labels h
 unfold checkN at h
 split at h
 ·rename_i x hf
  have := List.find?_some hf
  simp only [decide_eq_true_eq] at this
  exact absurd h this
 ·split at h
  ·cases h
  ·rename_i h2
   unfold lenN at h2
   have := sum_ge n
   omega
theorem checkN_g {n : Nm} (h : checkN n = 0) : NmG n :=
 ⟨fun l hl => (checkN_labels h l hl).1, fun l hl => by have := (checkN_labels h l hl).2; omega, by have := checkN_len h; omega⟩
theorem goodN_g {n : Nm} (h : goodN n = true) : NmG n := by
 unfold goodN at h
 simp only [Bool.and_eq_true, decide_eq_true_eq] at h
 exact checkN_g h.2

theorem NGood_ok (w : World) (a : Value) (xs : Nm) (ha : Row w a (xs.map vs)) :
  Fn Tryz.prog 17 #[a] w (fun v w' => v = .bool (goodN xs) ∧ Ext w w') := by
 refine enter Tryz.func17 Tryz.ntmps17 rfl rfl ?_
 repeat refine c_r ?_
 refine rg0 ?_
 repeat refine c_r ?_
 cases hf : few xs with
 | true =>
  refine rq ?_; intro gd K hgd hK
  have hg2 : ∀ n σ b, wantV gd n σ (some (2, b)) = boolIs (ev n σ (.tmp 5)) b := (fun n σ b => by rw [wantV_some, show gd 2 = some 5 from (by rw [hgd]; rfl)]; rfl)
  try simp (disch := first | omega | assumption | rfl) only [↓reduceIte, go_sem, Nat.reduceLT, Nat.reduceEqDiff, Nat.reduceSub]
  refine Fn.mono (Few_ok w a xs ha) ?_
  rintro _ w1 ⟨rfl, hE1⟩
  rw [hf]
  try simp (disch := first | omega | assumption | rfl) only [↓reduceIte, go_sem, Nat.reduceLT, Nat.reduceEqDiff, Nat.reduceSub, ↓hg2]
  refine Fn.mono (RCheckName_ok w1 a xs (ha.ext hE1) (fun l hl => by
   have := few_lb hf l hl
   simp only [few, Bool.and_eq_true, List.all_eq_true, decide_eq_true_eq] at hf
   have := hf.2 l hl
   omega) (by have := few_len hf; omega)) ?_
  rintro _ w2 ⟨rfl, hE2⟩
  try simp (disch := first | omega | assumption | rfl) only [↓reduceIte, go_sem, Nat.reduceLT, Nat.reduceEqDiff, Nat.reduceSub, ↓hg2]
  refine hK _ _ ?_; clear hK hgd; clear K; try clear gd
  repeat refine c_r ?_
  refine rt0 Tryz.ntmps17 ?_
  refine ⟨?_, hE1.trans hE2⟩
  unfold goodN
  rw [hf, Bool.true_and]
 | false =>
  refine rq ?_; intro gd K hgd hK
  have hg2 : ∀ n σ b, wantV gd n σ (some (2, b)) = boolIs (ev n σ (.tmp 5)) b := (fun n σ b => by rw [wantV_some, show gd 2 = some 5 from (by rw [hgd]; rfl)]; rfl)
  try simp (disch := first | omega | assumption | rfl) only [↓reduceIte, go_sem, Nat.reduceLT, Nat.reduceEqDiff, Nat.reduceSub]
  refine Fn.mono (Few_ok w a xs ha) ?_
  rintro _ w1 ⟨rfl, hE1⟩
  rw [hf]
  try simp (disch := first | omega | assumption | rfl) only [↓reduceIte, go_sem, Nat.reduceLT, Nat.reduceEqDiff, Nat.reduceSub, ↓hg2]
  refine hK _ _ ?_; clear hK hgd; clear K; try clear gd
  repeat refine c_r ?_
  refine rt0 Tryz.ntmps17 ?_
  refine ⟨?_, hE1⟩
  unfold goodN
  rw [hf, Bool.false_and]

theorem Counts_ok (w : World) (t : Int) :
  Fn Tryz.prog 208 #[vi t] w (fun v w' => w' = w ∧ ∃ a b c : Int, v = .tuple #[vi a, vi b, vi c] ∧ ((t = 2 ∨ t = 5 ∨ t = 39) → a = 1) ∧ (t = 15 → b = 1)) := by
 refine enter Tryz.func208 Tryz.ntmps208 rfl rfl ?_
 repeat refine c_r ?_
 refine rg0 ?_
 repeat refine c_r ?_
 refine rg0 ?_
 repeat refine c_r ?_
 refine rg0 ?_
 repeat refine c_r ?_
 refine wc0 ?_ ?_
 ·intro h1
  simp only [decide_eq_true_eq] at h1
  repeat (first | refine c_r ?_ | refine rg0 ?_)
  refine ret_any (.inr rfl) Tryz.ntmps208 rfl (res_tmp (vr0) (res_tmp (vr0) (res_tmp (vr0) res_nil))) ?_
  exact ⟨rfl, 0, 0, 4, rfl, by omega, by omega⟩
 intro h1
 simp only [decide_eq_false_iff_not] at h1
 repeat refine c_r ?_
 refine rg0 ?_
 repeat refine c_r ?_
 refine wc0 ?_ ?_
 ·intro h2
  simp only [decide_eq_true_eq] at h2
  repeat (first | refine c_r ?_ | refine rg0 ?_)
  refine ret_any (.inr rfl) Tryz.ntmps208 rfl (res_tmp (vr0) (res_tmp (vr0) (res_tmp (vr0) res_nil))) ?_
  exact ⟨rfl, 0, 0, 16, rfl, by omega, by omega⟩
 intro h2
 simp only [decide_eq_false_iff_not] at h2
 refine W_seq ?_
 refine W_mono (Q := fun e σ' ds' v' => e = .normal ∧ ds' = [] ∧ v' = w ∧ σ' 5 = vi t ∧ ∃ bb, σ' 10 = .bool bb ∧ bb = (decide (t = 2) || (decide (t = 5) || (decide (t = 12) || decide (t = 39))))) ?_ ?_
 ·refine W_seq ?_
  refine rg0 ?_
  refine thenQ_normal ?_
  refine wc0 ?_ ?_
  ·intro h
   repeat refine c_r ?_
   exact ⟨rfl, rfl, rfl, vq0, true, by simp only [↓reduceIte, go_sem, Nat.reduceLT, Nat.reduceEqDiff, Nat.reduceSub]; rw [h], by rw [h]; rfl⟩
  intro e1
  refine W_seq ?_
  refine rg0 ?_
  refine thenQ_normal ?_
  refine wc0 ?_ ?_
  ·intro h
   repeat refine c_r ?_
   exact ⟨rfl, rfl, rfl, vq0, true, by simp only [↓reduceIte, go_sem, Nat.reduceLT, Nat.reduceEqDiff, Nat.reduceSub]; rw [h], by rw [e1, h]; rfl⟩
  intro e2
  refine W_seq ?_
  refine rg0 ?_
  refine thenQ_normal ?_
  refine wc0 ?_ ?_
  ·intro h
   repeat refine c_r ?_
   exact ⟨rfl, rfl, rfl, vq0, true, by simp only [↓reduceIte, go_sem, Nat.reduceLT, Nat.reduceEqDiff, Nat.reduceSub]; rw [h], by rw [e1, e2, h]; rfl⟩
  intro e3
  refine rg0 ?_
  exact ⟨rfl, rfl, rfl, vq0, decide (t = 39), vr0, by rw [e1, e2, e3]; rfl⟩
 rintro _ σ1 _ v1 ⟨rfl, rfl, hv1, h5, bb, h10, hbb⟩
 rw [hv1]
 clear hv1 v1
 repeat refine c_r ?_
 refine W_cond (t := bb) ((vq1 h10)) ?_ ?_
 ·intro ht
  rw [ht] at hbb
  repeat (first | refine c_r ?_ | refine rg0 ?_)
  refine ret_any (.inr rfl) Tryz.ntmps208 rfl (res_tmp (vr0) (res_tmp (vr0) (res_tmp (vr0) res_nil))) ?_
  refine ⟨rfl, 1, 0, 0, rfl, fun _ => rfl, fun h => ?_⟩
  subst h
  cases hbb
 intro ht
 rw [ht] at hbb
 have hno : ¬ (t = 2 ∨ t = 5 ∨ t = 39) := by
  rintro (rfl | rfl | rfl) <;> cases hbb
 repeat refine c_r ?_
 refine rg1 h5 ?_
 repeat refine c_r ?_
 refine wc0 ?_ ?_
 ·intro h3
  repeat (first | refine c_r ?_ | refine rg0 ?_)
  refine ret_any (.inr rfl) Tryz.ntmps208 rfl (res_tmp (vr0) (res_tmp (vr0) (res_tmp (vr0) res_nil))) ?_
  exact ⟨rfl, 1, 1, 0, rfl, fun _ => rfl, fun _ => rfl⟩
 intro h3
 simp only [decide_eq_false_iff_not] at h3
 repeat refine c_r ?_
 refine rg1 h5 ?_
 repeat refine c_r ?_
 refine wc0 ?_ ?_
 ·intro h4
  repeat (first | refine c_r ?_ | refine rg0 ?_)
  refine ret_any (.inr rfl) Tryz.ntmps208 rfl (res_tmp (vr0) (res_tmp (vr0) (res_tmp (vr0) res_nil))) ?_
  exact ⟨rfl, 2, 5, 0, rfl, fun h => absurd h hno, fun h => absurd h h3⟩
 intro h4
 repeat refine c_r ?_
 refine rg1 h5 ?_
 repeat refine c_r ?_
 refine wc0 ?_ ?_
 ·intro h6
  repeat (first | refine c_r ?_ | refine rg0 ?_)
  refine ret_any (.inr rfl) Tryz.ntmps208 rfl (res_tmp (vr0) (res_tmp (vr0) (res_tmp (vr0) res_nil))) ?_
  exact ⟨rfl, 0, 0, 0, rfl, fun h => absurd h hno, fun h => absurd h h3⟩
 intro h6
 repeat (first | refine c_r ?_ | refine rg0 ?_)
 refine ret_any (.inr rfl) Tryz.ntmps208 rfl (res_tmp (vr0) (res_tmp (vr0) (res_tmp (vr0) res_nil))) ?_
 exact ⟨rfl, 0, 0, -1, rfl, fun h => absurd h hno, fun h => absurd h h3⟩
end Go.Proofs.YtopbbjdembnfdaaGreat
