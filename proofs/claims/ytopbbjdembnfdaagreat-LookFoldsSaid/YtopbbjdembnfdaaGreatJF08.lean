/-
  Texts of a proof, joined: E10, F2, Y4, F3, F4, Y5, F5, E11, E12, E13, F6, F7, F8, F9, G0.
  Conditions: none.
-/
import Derived.Test.YtopbbjdembnfdaaGreatJF07
import Derived.Test.YtopbbjdembnfdaaGreatJF05
import Derived.Test.YtopbbjdembnfdaaGreatJF06
import Derived.Test.YtopbbjdembnfdaaGreatJF03
set_option linter.unusedVariables false
set_option linter.unusedSimpArgs false
set_option linter.defProp false
set_option linter.unnecessarySimpa false
namespace Go.Proofs.YtopbbjdembnfdaaGreat
open Go
set_option maxRecDepth 10000

structure ResL where
 kind : Int
 data : List DatL
 name : Nm
 wild : Bool
 glue : List (Nm × List DatL)
def GlC (w0 w : World) (cs : List Value) (x : Nm × List DatL) : Prop := ∃ hv dv, cs = [hv, dv] ∧ Row w0 hv (x.1.map vs) ∧ Rows 5 (DatAt w0) w dv x.2
structure ResAt (w0 w : World) (cs : List Value) (r : ResL) : Prop where
 ex : ∃ dv nv gv, cs = [vi r.kind, dv, nv, .bool r.wild, gv] ∧ Rows 5 (DatAt w0) w dv r.data ∧ Row w nv (r.name.map vs) ∧ Rows 2 (GlC w0 w) w gv r.glue
theorem ResAt.ext {w0 w x : World} {cs : List Value} {r : ResL} (h : ResAt w0 w cs r) (hE : Ext w x) : ResAt w0 x cs r := by
 obtain ⟨dv, nv, gv, e, h1, h2, h3⟩ := h.ex
 refine ⟨dv, nv, gv, e, h1.ext hE, h2.ext hE, (h3.ext hE).to fun cs x hx => ?_⟩
 obtain ⟨hv, dv, e, g1, g2⟩ := hx
 exact ⟨hv, dv, e, g1, g2.ext hE⟩

def GlB (w0 : World) (B : Nat) (w : World) (cs : List Value) (x : Nm × List DatL) : Prop := ∃ hv dv, cs = [hv, dv] ∧ Row w0 hv (x.1.map vs) ∧ Rows 5 (DatAt w0) w dv x.2 ∧ BlkB B w dv
structure ResB (w0 : World) (B : Nat) (w : World) (cs : List Value) (r : ResL) : Prop where
 ex : ∃ dv nv gv, cs = [vi r.kind, dv, nv, .bool r.wild, gv] ∧ Rows 5 (DatAt w0) w dv r.data ∧ BlkB B w dv ∧ ((Row w nv (r.name.map vs) ∧ BlkB B w nv) ∨ Row w0 nv (r.name.map vs)) ∧ Rows 2 (GlB w0 B w) w gv r.glue ∧ BlkB B w gv
theorem ResB.keep {w0 w x : World} {B : Nat} {cs : List Value} {r : ResL} (h : ResB w0 B w cs r) {S : Nat → Prop} (hk : Keep S w x) (hS : ∀ b, B ≤ b → b < w.heap.size → ¬ S b) : ResB w0 B x cs r := by
 obtain ⟨dv, nv, gv, e, h1, h2, h3, h4, h5⟩ := h.ex
 refine ⟨dv, nv, gv, e, h1.keep hk h2 hS, h2.ext hk.size, ?_, (h4.keep hk h5 hS).to fun cs y hy => ?_, h5.ext hk.size⟩
 ·rcases h3 with ⟨h3, h6⟩ | h3
  ·exact .inl ⟨h3.blocks fun a n c hv => hk.block _ (h6 a n c hv).2 (hS _ (h6 a n c hv).1 (h6 a n c hv).2), h6.ext hk.size⟩
  ·exact .inr h3
 ·obtain ⟨hv, dv, e, g1, g2, g3⟩ := hy
  exact ⟨hv, dv, e, g1, g2.keep hk g3 hS, g3.ext hk.size⟩
theorem ResB.at {w0 w : World} {B : Nat} {cs : List Value} {r : ResL} (h : ResB w0 B w cs r) (hE : Ext w0 w) : ResAt w0 w cs r := by
 obtain ⟨dv, nv, gv, e, h1, h2, h3, h4, h5⟩ := h.ex
 refine ⟨dv, nv, gv, e, h1, ?_, h4.to fun cs y hy => ?_⟩
 ·rcases h3 with ⟨h3, _⟩ | h3
  ·exact h3
  ·exact h3.ext hE
 ·obtain ⟨hv, dv, e, g1, g2, _⟩ := hy
  exact ⟨hv, dv, e, g1, g2⟩
theorem ResB.mono {w0 w : World} {B B' : Nat} {cs : List Value} {r : ResL} (h : ResB w0 B w cs r) (hB : B' ≤ B) : ResB w0 B' w cs r := by
 obtain ⟨dv, nv, gv, e, h1, h2, h3, h4, h5⟩ := h.ex
 refine ⟨dv, nv, gv, e, h1, h2.mono hB, h3.imp (fun h => ⟨h.1, h.2.mono hB⟩) id, h4.to fun cs y hy => ?_, h5.mono hB⟩
 obtain ⟨hv, dv, e, g1, g2, g3⟩ := hy
 exact ⟨hv, dv, e, g1, g2, g3.mono hB⟩
theorem ResB.cells {w0 w : World} {B : Nat} {cs : List Value} {r : ResL} (h : ResB w0 B w cs r) : cs.length = 5 ∧ ∀ v ∈ cs, one v = true := by
 obtain ⟨dv, nv, gv, rfl, h1, h2, h3, h4, h5⟩ := h.ex
 obtain ⟨a1, c1, rfl, _⟩ := h1.open
 obtain ⟨a2, c2, rfl, _⟩ := h4.open
 have hn : one nv = true := by
  rcases h3 with ⟨⟨a, c, rfl, _⟩, _⟩ | ⟨a, c, rfl, _⟩ <;> rfl
 refine ⟨rfl, fun v hv => ?_⟩
 simp at hv
 rcases hv with rfl | rfl | rfl | rfl | rfl
 ·rfl
 ·rfl
 ·exact hn
 ·rfl
 ·rfl

def GoodR (R : List RecL) : Prop := ∀ r ∈ R, ∀ n ∈ r.dat.names, NmG n
theorem datC_mem {R : List RecL} {n : Nm} {t : Int} {d : DatL} (h : d ∈ datC R n t) : ∃ r ∈ R, r.dat = d := by
 unfold datC at h
 obtain ⟨x, hx, rfl⟩ := List.mem_map.1 h
 have : ∀ x ∈ ofC R n t, ∃ r ∈ R, r.dat = x.dat := by
  unfold ofC
  exact canonL_all (Q := fun x => ∃ r ∈ R, r.dat = x.dat) (fun a b h => h) (fun x hx => ⟨x, (List.mem_filter.1 hx).1, rfl⟩)
 exact this x hx
theorem targets_good {R : List RecL} (hR : GoodR R) {n : Nm} {t u : Int} {ds : List DatL} (hds : ∀ d ∈ ds, d ∈ datC R n t) : ∀ x ∈ targetsL u ds, NmG x := by
 intro x hx
 unfold targetsL at hx
 split at hx
 ·obtain ⟨d, hd, hn⟩ := List.mem_filterMap.1 hx
  obtain ⟨r, hr, rfl⟩ := datC_mem (hds d hd)
  exact hR r hr x (List.mem_of_mem_head? hn)
 ·cases hx
theorem datC_len {R : List RecL} {n : Nm} {t : Int} : (datC R n t).length ≤ R.length := by
 unfold datC ofC
 rw [List.length_map]
 exact Nat.le_trans (canonL_len _) (List.length_filter_le _ _)
theorem datC_ne {R : List RecL} {n : Nm} {t : Int} : ofC R n t ≠ [] ↔ datC R n t ≠ [] := by
 unfold datC
 rw [ne_eq, ne_eq, List.map_eq_nil_iff]

def toN (t : Int) (ds : List DatL) : Nm := (hostsL t ds).getLast?.getD []
set_option maxHeartbeats 1000000 in
theorem First_ok {w0 w : World} {ov lv nv : Value} {o n : Nm} {R : List RecL} {t : Int} (hz : ZnAt w0 w ov lv o R) (hR : GoodR R) (hn : Row w nv (n.map vs)) (hok : NmS n) :
  Fn Tryz.prog 131 #[.agg #[ov, lv], nv, vi t] w (fun v w' => Ext w w' ∧ ∃ dv tv, v = .tuple #[dv, tv, .bool (decide (datC R n t ≠ []))] ∧ Rows 5 (DatAt w0) w' dv ((datC R n t).take 1) ∧ BlkB w.heap.size w' dv ∧ Row w0 tv ((toN t ((datC R n t).take 1)).map vs)) := by
 obtain ⟨ao, co, hov, _⟩ := id hz.org
 obtain ⟨al, cl, hlv, _⟩ := hz.recs.open
 rw [hov, hlv]
 refine enter Tryz.func131 Tryz.ntmps131 rfl rfl ?_
 repeat refine c_r ?_
 refine rg0 ?_
 repeat refine c_r ?_
 rw [← hov, ← hlv]
 refine W_alloc1 ?_
 intro w1 hE1 hs1 hA
 have p1 : cellO w1 (some ⟨w.heap.size, 1, Option.none⟩) = some lv := cellO_at hA rfl
 have hz1 := hz.ext hE1
 refine rq ?_; intro gd K hgd hK
 try simp (disch := first | omega | assumption | rfl) only [↓reduceIte, go_sem, Nat.reduceLT, Nat.reduceEqDiff, Nat.reduceSub, p1, Nat.zero_add]
 refine Fn.mono (Of_ok hz1.e0 hz1.recs (hn.ext hE1) hok.lb (by have := hok.len; omega) hz.ok hz.rl) ?_
 rintro _ w2 ⟨hE2, ow, ty, tl, dv, rfl, how, hty, hdv, hdb⟩
 have hdd : (ofC R n t).map RecL.dat = datC R n t := rfl
 rw [hdd] at hdv
 obtain ⟨bb, hbb⟩ : ∃ bb : Bool, decide (datC R n t ≠ []) = bb := ⟨_, rfl⟩
 rw [show decide (ofC R n t ≠ []) = bb from by rw [← hbb]; exact decide_eq_decide.2 (datC_ne (R := R) (n := n) (t := t))]
 try simp (disch := first | omega | assumption | rfl) only [↓reduceIte, go_sem, Nat.reduceLT, Nat.reduceEqDiff, Nat.reduceSub]
 have hB3 := new_block w2 (.cells #[.slice Option.none 0 0, vi 0, v32 0, .slice Option.none 0 0] 209 (0, 0))
 have hE4 := Ext.alloc w2 (.cells #[.slice Option.none 0 0, vi 0, v32 0, .slice Option.none 0 0] 209 (0, 0))
 have hs4 := new_size w2 (.cells #[.slice Option.none 0 0, vi 0, v32 0, .slice Option.none 0 0] 209 (0, 0))
 revert hB3 hE4 hs4
 generalize w2.alloc (.cells #[.slice Option.none 0 0, vi 0, v32 0, .slice Option.none 0 0] 209 (0, 0)) = w3
 intro hB3 hE4 hs4
 obtain ⟨ad, cd, hdv', hcd, _⟩ := hdv.open
 refine sv_all (P := Tryz.prog) (t := 209) (l := [ow, vi ty, v32 tl, dv]) hB3 rfl (fun v h => by
  simp at h
  rcases h with rfl | rfl | rfl | rfl
  ·exact how
  ·rfl
  ·rfl
  ·rw [hdv']; rfl) rfl rfl ?_
 intro w4 hs5 hB5 hk5
 try simp (disch := first | omega | assumption | rfl) only [↓reduceIte, go_sem, Nat.reduceLT, Nat.reduceEqDiff, Nat.reduceSub]
 refine hK _ _ ?_; clear hK hgd; clear K; try clear gd
 have hE5 : Ext w2 w4 := Keep.to_ext hE4 rfl (fun b hb => by omega) hk5
 have hE14 := hE2.trans hE5
 have hEw4 := hE1.trans hE14
 have q3 : cellO w4 (some ⟨w2.heap.size, 3, Option.none⟩) = some dv := sv_get hB5 rfl
 have hdv4 := hdv.ext hE5
 have hdb4 : BlkB w.heap.size w4 dv := (hdb.ext hE5.size).mono hE1.size
 repeat refine c_r ?_
 refine rg0 ?_
 repeat refine c_r ?_
 by_cases hne : datC R n t ≠ []
 ·rw [decide_eq_true hne] at hbb
  subst hbb
  refine W_cond (t := false) (vq0) (fun h => by cases h) ?_
  intro _
  have hpos : 0 < (datC R n t).length := List.length_pos_iff.2 hne
  have htk : ((datC R n t).take 1).length = 1 := by rw [List.length_take]; omega
  rw [hdv'] at hdv4 hdb4 q3
  have hcd' := hdv4.len.2
  have hd1 : Rows 5 (DatAt w0) w4 (.slice ad 1 cd) ((datC R n t).take 1) := hdv4.take (by omega) (by omega)
  have h01 : (0 : Int) ≤ 1 := by omega
  have h11 : (1 : Int) ≤ (cd : Int) := by omega
  repeat refine c_r ?_
  refine rg0 ?_
  refine W_alloc1 ?_
  intro w5 hE6 hs6 hA6
  have q3' := cellO_ext hE6 q3
  have t1 : Int.toNat 1 = 1 := rfl
  repeat refine c_r ?_
  refine rq ?_; intro gd K hgd hK
  try simp (disch := first | omega | assumption | rfl) only [↓reduceIte, go_sem, Nat.reduceLT, Nat.reduceEqDiff, Nat.reduceSub, q3', Nat.zero_add, h01, h11, t1, Nat.sub_zero, Nat.zero_mul, adr_zero, ite_self]
  refine ⟨by kernel_rfl, ?_⟩
  rw [show bdV Tryz.prog 209 [(1, vi t), (3, .slice ad 1 cd)] = some (.agg #[.slice Option.none 0 0, vi t, v32 0, .slice ad 1 cd]) from by kernel_rfl]
  try simp (disch := first | omega | assumption | rfl) only [↓reduceIte, go_sem, Nat.reduceLT, Nat.reduceEqDiff, Nat.reduceSub]
  refine Fn.mono hosts_ok ?_
  rintro _ w6 ⟨rfl, hE7, hs7, hb7⟩
  try simp (disch := first | omega | assumption | rfl) only [↓reduceIte, go_sem, Nat.reduceLT, Nat.reduceEqDiff, Nat.reduceSub]
  refine hK _ _ ?_; clear hK hgd; clear K; try clear gd
  have hE47 := hE6.trans hE7
  have hEw6 := hEw4.trans hE47
  have e1 := hE1.size
  have e2 := hE14.size
  have e3 := hz.e0.size
  have hit := hostsIt (C := fun b => b = w4.heap.size) (hz.e0.trans hEw6) hb7 rfl rfl (hd1.ext hE47) (fun b hb => by omega) (by rw [htk]; decide) (targets_good hR (t := t) (n := n) (fun d hd => List.mem_of_mem_take hd))
  have hA7 := hE7.at hA6
  repeat refine c_r ?_
  refine W_rangeU (g := 177) (cap := #[.pointer (some ⟨w5.heap.size, 0, Option.none⟩)]) (vq0) rfl hit (Keep.refl _ _) (Nat.le_refl _) (fun b hb => by omega)
   (fun x U B args h => by obtain ⟨v, h, _⟩ := h; rw [h]; rfl)
   (fun pre U B => (∀ b, ¬ U b) ∧ Keep (fun b => b = w4.heap.size) w6 B ∧ ∃ tv, B.heap[w4.heap.size]? = some (.cells #[tv] 23 (0, 0)) ∧ Row w0 tv ((pre.getLast?.getD []).map vs))
   (fun _ _ _ => False) ?_ (fun _ _ _ _ h _ => h.elim) ?_ ?_ ?_ (fun _ _ _ _ _ _ h _ => h.elim)
  ·rintro pre U A B ⟨hU, hk, tv, h1, h2⟩ _ hk2
   have hk3 : Keep (fun b => b = w4.heap.size) w6 B := ⟨hk2.os.trans hk.os, hk2.tape.trans hk.tape, hk2.output.trans hk.output, Nat.le_trans hk.size hk2.size, fun b hb hne => (hk2.block b (by have := hk.size; omega) (by unfold span; omega)).trans (hk.block b hb hne), Nat.le_trans hk.drawn hk2.drawn⟩
   exact ⟨hU, hk3, tv, (hk2.block _ (Array.getElem?_eq_some_iff.1 h1).1 (by unfold span; omega)).trans h1, h2⟩
  ·exact ⟨fun b h => h, Keep.refl _ _, _, hA7, ⟨Option.none, 0, rfl, Nat.le_refl _, fun j h => absurd h (by simp)⟩⟩
  ·rintro lp pre U x A args ⟨suf, hxs⟩ hszA ⟨hU, hk, tv, h1, h2⟩ _ ⟨xv, rfl, hxr⟩
   obtain ⟨ax, cx, hxv, _⟩ := id hxr
   refine rq ?_; intro gd K hgd hK
   try simp (disch := first | omega | assumption | rfl) only [↓reduceIte, go_sem, Nat.reduceLT, Nat.reduceEqDiff, Nat.reduceSub]
   refine hK _ _ ?_; clear hK hgd; clear K; try clear gd
   refine thenQ_normal ?_
   refine ⟨rfl, Keep.refl _ _, fun Y hY => ?_⟩
   have h1Y := (hY.block _ (Array.getElem?_eq_some_iff.1 h1).1 (by unfold two; omega)).trans h1
   have hkY : Keep (fun b => b = w4.heap.size) w6 Y := ⟨hY.os.trans hk.os, hY.tape.trans hk.tape, hY.output.trans hk.output, Nat.le_trans hk.size hY.size, fun b hb hne => (hY.block b (by have := hk.size; omega) (by unfold two; omega)).trans (hk.block b hb hne), Nat.le_trans hk.drawn hY.drawn⟩
   repeat refine c_r ?_
   refine rq ?_; intro gd K hgd hK
   try simp (disch := first | omega | assumption | rfl) only [↓reduceIte, go_sem, Nat.reduceLT, Nat.reduceEqDiff, Nat.reduceSub]
   refine sv_at (P := Tryz.prog) (t := 23) (j := 0) (l := [tv]) h1Y (by simp) (by rw [hxv]; rfl) rfl rfl ?_
   intro z hz' hbz hkz
   try simp (disch := first | omega | assumption | rfl) only [↓reduceIte, go_sem, Nat.reduceLT, Nat.reduceEqDiff, Nat.reduceSub]
   refine hK _ _ ?_; clear hK hgd; clear K; try clear gd
   simp only [List.set_cons_zero] at hbz
   repeat refine c_r ?_
   exact ⟨U, ⟨hU, hkY.trans hkz, xv, hbz, by simpa using hxr⟩, fun b hb => .inl hb, hkz.mono (fun b _ h => .inl h)⟩
  ·rintro xs U B rfl hszB _ ⟨hU, hk, tv, h1, h2⟩ hD
   have hdB : Rows 5 (DatAt w0) B (.slice ad 1 cd) ((datC R n t).take 1) := (hd1.ext hE47).blocks fun a m c hv => by
    injection hv with g1
    subst g1
    have := hdb4 a _ _ rfl
    exact hk.block _ (by have := hE47.size; omega) (by omega)
   have hB5' : B.heap[w2.heap.size]? = some (.cells [ow, vi ty, v32 tl, dv].toArray 209 (0, 0)) := (hk.block _ (by have := hE5.size; have := hE47.size; omega) (by omega)).trans (Ext.at hE47 hB5)
   have q3B : cellO B (some ⟨w2.heap.size, 3, Option.none⟩) = some (.slice ad (datC R n t).length cd) := sv_get hB5' (by rw [hdv']; rfl)
   have q4B : cellO B (some ⟨w4.heap.size, 0, Option.none⟩) = some tv := cellO_at h1 rfl
   repeat refine c_r ?_
   refine W_drw (fun _ => false) [(0, true), (1, true), (2, true), (4, true), (3, false), (5, true), (6, true), (7, true)] NoS mixed (by kernel_rfl) ?_; intro gd K x hgd hx hxe hK; clear hxe
   have r1 := cellO_ext hx q3B
   have r2 := cellO_ext hx q4B
   simp (disch := first | omega | assumption | rfl) only [↓reduceIte, go_sem, Nat.reduceLT, Nat.reduceEqDiff, Nat.reduceSub, r1, r2, Nat.zero_add, h01, h11, t1, Nat.sub_zero, Nat.zero_mul, adr_zero, ite_self]
   refine Fn.mono (P_cd.Clip_ok (by omega)) ?_
   rintro _ y0 ⟨rfl, hy0⟩
   refine ⟨.inr (by rw [hy0]; exact Keep.refl _ _), ?_⟩
   rw [hy0]
   clear hy0 y0
   simp (disch := first | omega | assumption | rfl) only [↓reduceIte, go_sem, Nat.reduceLT, Nat.reduceEqDiff, Nat.reduceSub, r1, r2, Nat.zero_add]
   refine hK _ _ ?_; clear hK hgd; clear K; try clear gd
   repeat refine c_r ?_
   refine ret_anyM (.inr rfl) Tryz.ntmps131 rfl (Ext.at hx hD) ?_
   intro Z hkZ hsZ
   have hEwB : Ext w B := Keep.to_ext hEw6 rfl (fun b hb => by omega) hk
   have hDlt : w6.heap.size < B.heap.size := (Array.getElem?_eq_some_iff.1 hD).1
   have hrx : Rows 5 (DatAt w0) x (.slice ad 1 1) ((datC R n t).take 1) := by
    have h9 := (hdB.ext hx).take (m := 1) (c2 := 1) (Nat.le_refl 1) (Nat.le_refl 1)
    rw [List.take_take] at h9
    exact h9
   refine ⟨_, res_tmp (v := .slice ad 1 1) (vr0) (res_tmp (v := tv) (vr0) (res_tmp (v := .bool true) (vr0) res_nil)), Keep.to_ext (hEwB.trans hx) rfl (fun b hb => by have := hE47.size; omega) hkZ, _, tv, by rw [decide_eq_true hne]; rfl, ?_, ?_, ?_⟩
   ·exact hrx.blocks fun a m c hv => by
     injection hv with g1
     subst g1
     have := hdb4 a _ _ rfl
     exact hkZ.block _ (by have := hx.size; have := hk.size; have := hE47.size; omega) (by have := hE47.size; omega)
   ·exact (hdb4.same.ext (by have := hx.size; have := hk.size; have := hE47.size; omega))
   ·exact h2
 ·have hnil : datC R n t = [] := by simpa using hne
  rw [decide_eq_false hne] at hbb
  subst hbb
  refine W_cond (t := true) (vq0) ?_ (fun h => by cases h)
  intro _
  repeat refine c_r ?_
  refine rg0 ?_
  repeat refine c_r ?_
  refine ret_any (.inr rfl) Tryz.ntmps131 rfl (res_tmp (v := .slice Option.none 0 0) (vr0) (res_tmp (v := .slice Option.none 0 0) (vr0) (res_tmp (v := .bool false) (vr0) res_nil))) ?_
  refine ⟨hEw4, _, _, by rw [decide_eq_false hne]; rfl, by rw [hnil]; exact Rows.nil _ _ _, BlkB.nil, ?_⟩
  have h0 : toN t (List.take 1 (datC R n t)) = [] := by
   rw [hnil]
   unfold toN hostsL targetsL
   split <;> rfl
  rw [h0]
  exact ⟨Option.none, 0, rfl, Nat.le_refl _, fun j h => absurd h (by simp)⟩
end Go.Proofs.YtopbbjdembnfdaaGreat

namespace Go.Proofs.YtopbbjdembnfdaaGreat
open Go
set_option maxRecDepth 10000

abbrev Key := Nm × (Int × List DatL)
structure SX where
 key : Key
 ow : Value
 ttl : Int
 dv : Value
def SX.cells (x : SX) : List Value := [x.ow, vi x.key.2.1, v32 x.ttl, x.dv]
def sxC (cs : List Value) (x : SX) : Prop := cs = x.cells ∧ one x.ow = true ∧ one x.dv = true
structure SI (w0 : World) (B : Nat) (A : World) (ov : Value) (G : List SX) : Prop where
 own : Owns 4 sxC B A 222 ov G
 row : ∀ x ∈ G, Row w0 x.ow (x.key.1.map vs) ∧ Rows 5 (DatAt w0) A x.dv x.key.2.2 ∧ BlkB B A x.dv ∧ ∀ a n c, x.dv = .slice (some a) n c → some a.block ≠ ov.ownBlock
 nm : ∀ x ∈ G, LB x.key.1 ∧ x.key.1.length ≤ 1000000000000000
theorem SI.ext {w0 A A' : World} {B : Nat} {ov : Value} {G : List SX} (h : SI w0 B A ov G) (hE : Ext A A') : SI w0 B A' ov G :=
 ⟨h.own.ext hE, fun x hx => by
  obtain ⟨h1, h2, h3, h4⟩ := h.row x hx
  exact ⟨h1, h2.ext hE, h3.ext hE.size, h4⟩, h.nm⟩
theorem SI.mono {w0 A : World} {B B' : Nat} {ov : Value} {G : List SX} (h : SI w0 B A ov G) (hB : B' ≤ B) : SI w0 B' A ov G :=
 ⟨h.own.mono hB, fun x hx => by
  obtain ⟨h1, h2, h3, h4⟩ := h.row x hx
  exact ⟨h1, h2, h3.mono hB, h4⟩, h.nm⟩
theorem off_of {y : Addr} {n : Nat} (h : y.block < n) : offS (above n) (some y) := fun a ha hb => by
 cases ha
 unfold above at hb
 exact absurd (show n ≤ y.block from hb) (by omega)
end Go.Proofs.YtopbbjdembnfdaaGreat

namespace Go.Proofs.YtopbbjdembnfdaaGreat
open Go

end Go.Proofs.YtopbbjdembnfdaaGreat

namespace Go.Proofs.YtopbbjdembnfdaaGreat
open Go
set_option maxRecDepth 10000

end Go.Proofs.YtopbbjdembnfdaaGreat

namespace Go.Proofs.YtopbbjdembnfdaaGreat
open Go
set_option maxRecDepth 10000

end Go.Proofs.YtopbbjdembnfdaaGreat

namespace Go.Proofs.YtopbbjdembnfdaaGreat
open Go

theorem foldN_drop (n : Nm) (k : Nat) : foldN (n.drop k) = (foldN n).drop k := by unfold foldN; rw [List.map_drop]
end Go.Proofs.YtopbbjdembnfdaaGreat

namespace Go.Proofs.YtopbbjdembnfdaaGreat
open Go
set_option maxRecDepth 10000

end Go.Proofs.YtopbbjdembnfdaaGreat

namespace Go.Proofs.YtopbbjdembnfdaaGreat
open Go
set_option maxRecDepth 10000

def glueOf (R : List RecL) (hs : List Nm) : List (Nm × List DatL) := hs.filterMap fun h => if glueL R h = [] then Option.none else some (h, glueL R h)
def referL (R : List RecL) (cut : Nm) : ResL := ⟨4, datC R cut 2, cut, false, glueOf R (hostsL 2 (datC R cut 2))⟩
theorem glueOf_app (R : List RecL) (a : List Nm) (h : Nm) : glueOf R (a ++ [h]) = glueOf R a ++ (if glueL R h = [] then [] else [(h, glueL R h)]) := by
 unfold glueOf
 rw [List.filterMap_append]
 congr 1
 by_cases hg : glueL R h = []
 ·simp [hg]
 ·simp [hg]

abbrev GlX := (Nm × List DatL) × (Value × Value)
def glC (cs : List Value) (x : GlX) : Prop := cs = [x.2.1, x.2.2] ∧ one x.2.1 = true ∧ one x.2.2 = true
theorem gl_shape : Shape 2 glC := by
 refine ⟨fun h => ?_, fun h => ?_⟩
 ·rw [h.1]; rfl
 ·intro q hq
  rw [h.1] at hq
  simp at hq
  rcases hq with rfl | rfl
  ·exact h.2.1
  ·exact h.2.2
theorem targets_len (t : Int) (ds : List DatL) : (targetsL t ds).length ≤ ds.length := by
 unfold targetsL
 split
 ·exact List.length_filterMap_le _ _
 ·simp
theorem hostsG_mem : ∀ (had : List (List UInt8)) (l : List Nm), ∀ x ∈ hostsG had l, x ∈ l
 | _, [], x, h => by cases h
 | had, y :: l, x, h => by
  unfold hostsG at h
  split at h
  ·exact List.mem_cons_of_mem _ (hostsG_mem had l x h)
  ·rcases List.mem_cons.1 h with rfl | h
   ·exact List.mem_cons_self ..
   ·exact List.mem_cons_of_mem _ (hostsG_mem _ l x h)
theorem hostsG_len : ∀ (had : List (List UInt8)) (l : List Nm), (hostsG had l).length ≤ l.length
 | _, [] => Nat.le_refl _
 | had, y :: l => by
  unfold hostsG
  split
  ·have := hostsG_len had l; rw [List.length_cons]; omega
  ·have := hostsG_len (textN y :: had) l; rw [List.length_cons, List.length_cons]; omega
theorem glueOf_len (R : List RecL) (hs : List Nm) : (glueOf R hs).length ≤ hs.length := List.length_filterMap_le _ _

theorem Rows.mapM {α β : Type} {k : Nat} {C : List Value → α → Prop} {C' : List Value → β → Prop} {w : World} {v : Value} {xs : List α} (h : Rows k C w v xs) (f : α → β) (hC : ∀ cs x, x ∈ xs → C cs x → C' cs (f x)) : Rows k C' w v (xs.map f) := by
 obtain ⟨L, h1, h2, h3⟩ := h
 refine ⟨L, h1, by rw [List.length_map]; exact h2, fun i h h' => ?_⟩
 rw [List.length_map] at h'
 rw [List.getElem_map]
 exact hC _ _ (List.getElem_mem h') (h3 i h h')

structure RfI (w0 w : World) (D b2 b4 b7 : Nat) (ov lv dv sv : Value) (cut : Nm) (R : List RecL) (ds : List DatL) (pre : List Nm) (U : Nat → Prop) (A : World) : Prop where
 e : Ext w A
 sz : D ≤ A.heap.size
 z : A.heap[b2]? = some (.cells #[ov, lv] 34 (0, 0))
 c : A.heap[b4]? = some (.cells #[vi 0, .slice Option.none 0 0, .slice Option.none 0 0, .bool false, .slice Option.none 0 0] 31 (0, 0))
 d : Rows 5 (DatAt w0) A dv ds
 s : Row A sv (cut.map vs)
 g : ∃ gv, ∃ G : List GlX, A.heap[b7]? = some (.cells #[vi 4, dv, sv, .bool false, gv] 31 (0, 0)) ∧ G.map Prod.fst = glueOf R pre ∧ Owns 2 glC (D + 3) A 112 gv G ∧ (∀ x ∈ G, Row w0 x.2.1 (x.1.1.map vs) ∧ Rows 5 (DatAt w0) A x.2.2 x.1.2 ∧ BlkB (D + 3) A x.2.2 ∧ ∀ a n c, x.2.2 = .slice (some a) n c → some a.block ≠ gv.ownBlock) ∧ ∀ b, U b ↔ some b = gv.ownBlock

set_option maxHeartbeats 1000000 in
theorem Refer_ok {w0 w : World} {ov lv nv : Value} {o cut : Nm} {R : List RecL} (hz : ZnAt w0 w ov lv o R) (hR : GoodR R) (hn : Row w nv (cut.map vs)) (hok : NmS cut) :
  Fn Tryz.prog 61 #[.agg #[ov, lv], nv] w (fun v w' => Ext w w' ∧ ∃ cs, v = .agg cs.toArray ∧ ResB w0 w.heap.size w' cs (referL R cut)) := by
 obtain ⟨ao, co, hov, _⟩ := id hz.org
 obtain ⟨al, cl, hlv, _⟩ := hz.recs.open
 rw [hov, hlv]
 refine enter Tryz.func61 Tryz.ntmps61 rfl rfl ?_
 repeat refine c_r ?_
 refine rg0 ?_
 repeat refine c_r ?_
 rw [← hov, ← hlv]
 rw [new_size]
 refine W_alloc2 ?_
 intro w1 hE1 hs1 hA hC
 have p1 : cellO w1 (some ⟨w.heap.size, 1, Option.none⟩) = some lv := cellO_at hA rfl
 have hz1 := hz.ext hE1
 refine rq ?_; intro gd K hgd hK
 try simp (disch := first | omega | assumption | rfl) only [↓reduceIte, go_sem, Nat.reduceLT, Nat.reduceEqDiff, Nat.reduceSub, p1, Nat.zero_add]
 refine Fn.mono (Of_ok hz1.e0 hz1.recs (hn.ext hE1) hok.lb (by have := hok.len; omega) hz.ok hz.rl) ?_
 rintro _ w2 ⟨hE2, ow, ty, tl, dv, rfl, how, hty, hdv, hdb⟩
 have hdd : (ofC R cut 2).map RecL.dat = datC R cut 2 := rfl
 rw [hdd] at hdv
 obtain ⟨bb, hbb⟩ : ∃ bb : Bool, decide (ofC R cut 2 ≠ []) = bb := ⟨_, rfl⟩
 rw [hbb]
 try simp (disch := first | omega | assumption | rfl) only [↓reduceIte, go_sem, Nat.reduceLT, Nat.reduceEqDiff, Nat.reduceSub]
 have hB3 := new_block w2 (.cells #[.slice Option.none 0 0, vi 0, v32 0, .slice Option.none 0 0] 209 (0, 0))
 have hE4 := Ext.alloc w2 (.cells #[.slice Option.none 0 0, vi 0, v32 0, .slice Option.none 0 0] 209 (0, 0))
 have hs4 := new_size w2 (.cells #[.slice Option.none 0 0, vi 0, v32 0, .slice Option.none 0 0] 209 (0, 0))
 revert hB3 hE4 hs4
 generalize w2.alloc (.cells #[.slice Option.none 0 0, vi 0, v32 0, .slice Option.none 0 0] 209 (0, 0)) = w3
 intro hB3 hE4 hs4
 obtain ⟨ad, cd, hdv', hcd, _⟩ := hdv.open
 refine sv_all (P := Tryz.prog) (t := 209) (l := [ow, vi ty, v32 tl, dv]) hB3 rfl (fun v h => by
  simp at h
  rcases h with rfl | rfl | rfl | rfl
  ·exact how
  ·rfl
  ·rfl
  ·rw [hdv']; rfl) rfl rfl ?_
 intro w4 hs5 hB5 hk5
 try simp (disch := first | omega | assumption | rfl) only [↓reduceIte, go_sem, Nat.reduceLT, Nat.reduceEqDiff, Nat.reduceSub]
 refine hK _ _ ?_; clear hK hgd; clear K; try clear gd
 have hE5 : Ext w2 w4 := Keep.to_ext hE4 rfl (fun b hb => by omega) hk5
 have hE14 := hE2.trans hE5
 have hEw4 := hE1.trans hE14
 have q3 : cellO w4 (some ⟨w2.heap.size, 3, Option.none⟩) = some dv := sv_get hB5 rfl
 have hdv4 := hdv.ext hE5
 have hdb4 : BlkB w.heap.size w4 dv := (hdb.ext hE5.size).mono hE1.size
 have e1 := hE1.size
 have e2 := hE14.size
 clear hB3 hE4 hs4 hk5 hs5
 repeat refine c_r ?_
 refine W_mono (Q := fun e σ' ds' v' => e = .normal ∧ ds' = [] ∧ σ' 2 = .pointer (some ⟨w.heap.size, 0, Option.none⟩) ∧ σ' 4 = .pointer (some ⟨w.heap.size + 1, 0, Option.none⟩) ∧ σ' 5 = .pointer (some ⟨w2.heap.size, 0, Option.none⟩) ∧ Ext w4 v' ∧ ∃ b7 sv, σ' 7 = .pointer (some ⟨b7, 0, Option.none⟩) ∧ w4.heap.size ≤ b7 ∧ v'.heap[b7]? = some (.cells #[vi 4, dv, sv, .bool false, .slice Option.none 0 0] 31 (0, 0)) ∧ Row v' sv (cut.map vs) ∧ BlkB w4.heap.size v' sv ∧ ∀ a n c, sv = .slice (some a) n c → a.block ≠ b7) ?_ ?_
 ·refine W_tree (fun i => i == 7) (.run [(0, true), (3, true), (4, true)] (.fork 4 [1, 6] (fun i => if i = 1 then (.run [] (.fork 3 [2, 6] (fun i => if i = 2 then (.run [(5, true), (6, false), (7, false)] .fin) else (.run [(2, false), (5, true), (7, false)] .fin)))) else (.run [(1, false), (2, false), (5, true), (7, false)] .fin)))) NoS mixed (by kernel_rfl) ?_; intro gd K x hgd hx hxe hK; clear hxe
  have q3x := cellO_ext hx q3
  simp (disch := first | omega | assumption | rfl) only [↓reduceIte, go_sem, Nat.reduceLT, Nat.reduceEqDiff, Nat.reduceSub, q3x, Nat.zero_add]
  simp only [allL_more, allL_one]; refine ⟨?_, ?_⟩
  ·simp (disch := first | omega | assumption | rfl) only [↓reduceIte, go_sem, Nat.reduceLT, Nat.reduceEqDiff, Nat.reduceSub]
   refine Fn.mono (CloneS_ok (hn.ext (hEw4.trans (hx))) hok.len) ?_
   rintro u y1 ⟨hou, hy1⟩
   refine ⟨.inr hy1, ?_⟩
   obtain ⟨au, cu, hu'⟩ := hou.slice
   have hur := hou.row
   have hub := hou.blk
   rw [hu'] at hur hub
   rw [List.length_map] at hu' hur hub
   rw [hu']
   obtain ⟨_, _, he, hcc, hgg⟩ := id hur
   injection he with g1 g2 g3
   subst g1 g3
   rw [List.length_map] at hcc
   have hrc : Row y1 (.slice au cut.length cut.length) (cut.map vs) := ⟨au, cut.length, by rw [List.length_map], by rw [List.length_map]; exact Nat.le_refl _, hgg⟩
   have hrb : BlkB x.heap.size y1 (.slice au cut.length cut.length) := hub.same
   have hys1 := hy1.size
   simp (disch := first | omega | assumption | rfl) only [↓reduceIte, go_sem, Nat.reduceLT, Nat.reduceEqDiff, Nat.reduceSub]
   simp only [allL_more, allL_one]; refine ⟨?_, ?_⟩
   ·simp (disch := first | omega | assumption | rfl) only [↓reduceIte, go_sem, Nat.reduceLT, Nat.reduceEqDiff, Nat.reduceSub]
    refine Fn.mono (P_cs.Clip_ok hcc) ?_
    rintro _ z0 ⟨rfl, hz0⟩
    refine ⟨.inr (by rw [hz0]; exact Keep.refl _ _), ?_⟩
    rw [hz0]
    clear hz0 z0
    simp (disch := first | omega | assumption | rfl) only [↓reduceIte, go_sem, Nat.reduceLT, Nat.reduceEqDiff, Nat.reduceSub]
    refine ⟨by kernel_rfl, ?_⟩
    rw [hdv', show bdV Tryz.prog 31 [(0, vi 4), (2, .slice au cut.length cut.length), (1, .slice ad (datC R cut 2).length cd)] = some (.agg #[vi 4, .slice ad (datC R cut 2).length cd, .slice au cut.length cut.length, .bool false, .slice Option.none 0 0]) from by kernel_rfl]
    try simp (disch := first | omega | assumption | rfl) only [↓reduceIte, go_sem, Nat.reduceLT, Nat.reduceEqDiff, Nat.reduceSub]
    refine ⟨.inr (Ext.alloc y1 _), ?_⟩
    have hB7 := new_block y1 (.cells #[vi 0, .slice Option.none 0 0, .slice Option.none 0 0, .bool false, .slice Option.none 0 0] 31 (0, 0))
    have hy3 := Ext.alloc y1 (.cells #[vi 0, .slice Option.none 0 0, .slice Option.none 0 0, .bool false, .slice Option.none 0 0] 31 (0, 0))
    have hs7 := new_size y1 (.cells #[vi 0, .slice Option.none 0 0, .slice Option.none 0 0, .bool false, .slice Option.none 0 0] 31 (0, 0))
    revert hB7 hy3 hs7
    generalize y1.alloc (.cells #[vi 0, .slice Option.none 0 0, .slice Option.none 0 0, .bool false, .slice Option.none 0 0] 31 (0, 0)) = y3
    intro hB7 hy3 hs7
    have hys3 := hy3.size
    try simp (disch := first | omega | assumption | rfl) only [↓reduceIte, go_sem, Nat.reduceLT, Nat.reduceEqDiff, Nat.reduceSub]
    refine sv_all (P := Tryz.prog) (t := 31) (l := [vi 4, .slice ad (datC R cut 2).length cd, .slice au cut.length cut.length, .bool false, .slice Option.none 0 0]) hB7 rfl (fun v h => by simp at h; rcases h with rfl | rfl | rfl | rfl | rfl <;> rfl) rfl rfl ?_
    intro z hz' hbz hkz
    refine ⟨.inl rfl, ?_⟩
    simp (disch := first | omega | assumption | rfl) only [↓reduceIte, go_sem, Nat.reduceLT, Nat.reduceEqDiff, Nat.reduceSub]
    have hxs := hx.size
    have hav : ∀ a n c, Value.slice au cut.length cut.length = .slice (some a) n c → a.block ≠ y1.heap.size := fun a n c hv => by have h1 := hrb a n c hv; omega
    exact hK _ _ ⟨rfl, rfl, vq0, vq0, vq0, Keep.to_ext (((hx).trans hy1).trans hy3) rfl (fun b hb => by omega) hkz, y1.heap.size, .slice au cut.length cut.length, vq0, by omega, by rw [hdv']; exact hbz, (hrc.ext hy3).blocks (fun a n c hv => hkz.block _ (by have h1 := (hrb.ext (hy3).size) a n c hv; omega) (hav a n c hv)), (((hrb.ext (hy3).size)).ext (by omega)).mono (by omega), hav⟩
   ·simp (disch := first | omega | assumption | rfl) only [↓reduceIte, go_sem, Nat.reduceLT, Nat.reduceEqDiff, Nat.reduceSub]
    refine ⟨.inr (Ext.alloc y1 _), ?_⟩
    have hB7 := new_block y1 (.cells #[vi 0, .slice Option.none 0 0, .slice Option.none 0 0, .bool false, .slice Option.none 0 0] 31 (0, 0))
    have hy2 := Ext.alloc y1 (.cells #[vi 0, .slice Option.none 0 0, .slice Option.none 0 0, .bool false, .slice Option.none 0 0] 31 (0, 0))
    have hs7 := new_size y1 (.cells #[vi 0, .slice Option.none 0 0, .slice Option.none 0 0, .bool false, .slice Option.none 0 0] 31 (0, 0))
    revert hB7 hy2 hs7
    generalize y1.alloc (.cells #[vi 0, .slice Option.none 0 0, .slice Option.none 0 0, .bool false, .slice Option.none 0 0] 31 (0, 0)) = y2
    intro hB7 hy2 hs7
    have hys2 := hy2.size
    try simp (disch := first | omega | assumption | rfl) only [↓reduceIte, go_sem, Nat.reduceLT, Nat.reduceEqDiff, Nat.reduceSub]
    refine Fn.mono (P_cs.Clip_ok hcc) ?_
    rintro _ z0 ⟨rfl, hz0⟩
    refine ⟨.inr (by rw [hz0]; exact Keep.refl _ _), ?_⟩
    rw [hz0]
    clear hz0 z0
    simp (disch := first | omega | assumption | rfl) only [↓reduceIte, go_sem, Nat.reduceLT, Nat.reduceEqDiff, Nat.reduceSub]
    refine ⟨by kernel_rfl, ?_⟩
    rw [hdv', show bdV Tryz.prog 31 [(0, vi 4), (2, .slice au cut.length cut.length), (1, .slice ad (datC R cut 2).length cd)] = some (.agg #[vi 4, .slice ad (datC R cut 2).length cd, .slice au cut.length cut.length, .bool false, .slice Option.none 0 0]) from by kernel_rfl]
    try simp (disch := first | omega | assumption | rfl) only [↓reduceIte, go_sem, Nat.reduceLT, Nat.reduceEqDiff, Nat.reduceSub]
    refine sv_all (P := Tryz.prog) (t := 31) (l := [vi 4, .slice ad (datC R cut 2).length cd, .slice au cut.length cut.length, .bool false, .slice Option.none 0 0]) hB7 rfl (fun v h => by simp at h; rcases h with rfl | rfl | rfl | rfl | rfl <;> rfl) rfl rfl ?_
    intro z hz' hbz hkz
    refine ⟨.inl rfl, ?_⟩
    simp (disch := first | omega | assumption | rfl) only [↓reduceIte, go_sem, Nat.reduceLT, Nat.reduceEqDiff, Nat.reduceSub]
    have hxs := hx.size
    have hav : ∀ a n c, Value.slice au cut.length cut.length = .slice (some a) n c → a.block ≠ y1.heap.size := fun a n c hv => by have h1 := hrb a n c hv; omega
    exact hK _ _ ⟨rfl, rfl, vq0, vq0, vq0, Keep.to_ext (((hx).trans hy1).trans hy2) rfl (fun b hb => by omega) hkz, y1.heap.size, .slice au cut.length cut.length, vq0, by omega, by rw [hdv']; exact hbz, (hrc.ext hy2).blocks (fun a n c hv => hkz.block _ (by have h1 := (hrb.ext (hy2).size) a n c hv; omega) (hav a n c hv)), (((hrb.ext (hy2).size)).ext (by omega)).mono (by omega), hav⟩
  ·simp (disch := first | omega | assumption | rfl) only [↓reduceIte, go_sem, Nat.reduceLT, Nat.reduceEqDiff, Nat.reduceSub]
   refine ⟨.inr (Ext.alloc x _), ?_⟩
   have hB7 := new_block x (.cells #[vi 0, .slice Option.none 0 0, .slice Option.none 0 0, .bool false, .slice Option.none 0 0] 31 (0, 0))
   have hy1 := Ext.alloc x (.cells #[vi 0, .slice Option.none 0 0, .slice Option.none 0 0, .bool false, .slice Option.none 0 0] 31 (0, 0))
   have hs7 := new_size x (.cells #[vi 0, .slice Option.none 0 0, .slice Option.none 0 0, .bool false, .slice Option.none 0 0] 31 (0, 0))
   revert hB7 hy1 hs7
   generalize x.alloc (.cells #[vi 0, .slice Option.none 0 0, .slice Option.none 0 0, .bool false, .slice Option.none 0 0] 31 (0, 0)) = y1
   intro hB7 hy1 hs7
   have hys1 := hy1.size
   try simp (disch := first | omega | assumption | rfl) only [↓reduceIte, go_sem, Nat.reduceLT, Nat.reduceEqDiff, Nat.reduceSub]
   refine Fn.mono (CloneS_ok (hn.ext (hEw4.trans ((hx).trans hy1))) hok.len) ?_
   rintro u y2 ⟨hou, hy2⟩
   refine ⟨.inr hy2, ?_⟩
   obtain ⟨au, cu, hu'⟩ := hou.slice
   have hur := hou.row
   have hub := hou.blk
   rw [hu'] at hur hub
   rw [List.length_map] at hu' hur hub
   rw [hu']
   obtain ⟨_, _, he, hcc, hgg⟩ := id hur
   injection he with g1 g2 g3
   subst g1 g3
   rw [List.length_map] at hcc
   have hrc : Row y2 (.slice au cut.length cut.length) (cut.map vs) := ⟨au, cut.length, by rw [List.length_map], by rw [List.length_map]; exact Nat.le_refl _, hgg⟩
   have hrb : BlkB y1.heap.size y2 (.slice au cut.length cut.length) := hub.same
   have hys2 := hy2.size
   simp (disch := first | omega | assumption | rfl) only [↓reduceIte, go_sem, Nat.reduceLT, Nat.reduceEqDiff, Nat.reduceSub]
   refine Fn.mono (P_cs.Clip_ok hcc) ?_
   rintro _ z0 ⟨rfl, hz0⟩
   refine ⟨.inr (by rw [hz0]; exact Keep.refl _ _), ?_⟩
   rw [hz0]
   clear hz0 z0
   simp (disch := first | omega | assumption | rfl) only [↓reduceIte, go_sem, Nat.reduceLT, Nat.reduceEqDiff, Nat.reduceSub]
   refine ⟨by kernel_rfl, ?_⟩
   rw [hdv', show bdV Tryz.prog 31 [(0, vi 4), (2, .slice au cut.length cut.length), (1, .slice ad (datC R cut 2).length cd)] = some (.agg #[vi 4, .slice ad (datC R cut 2).length cd, .slice au cut.length cut.length, .bool false, .slice Option.none 0 0]) from by kernel_rfl]
   try simp (disch := first | omega | assumption | rfl) only [↓reduceIte, go_sem, Nat.reduceLT, Nat.reduceEqDiff, Nat.reduceSub]
   refine sv_all (P := Tryz.prog) (t := 31) (l := [vi 4, .slice ad (datC R cut 2).length cd, .slice au cut.length cut.length, .bool false, .slice Option.none 0 0]) (Ext.at hy2 hB7) rfl (fun v h => by simp at h; rcases h with rfl | rfl | rfl | rfl | rfl <;> rfl) rfl rfl ?_
   intro z hz' hbz hkz
   refine ⟨.inl rfl, ?_⟩
   simp (disch := first | omega | assumption | rfl) only [↓reduceIte, go_sem, Nat.reduceLT, Nat.reduceEqDiff, Nat.reduceSub]
   have hxs := hx.size
   have hav : ∀ a n c, Value.slice au cut.length cut.length = .slice (some a) n c → a.block ≠ x.heap.size := fun a n c hv => by have h1 := hrb a n c hv; omega
   exact hK _ _ ⟨rfl, rfl, vq0, vq0, vq0, Keep.to_ext (((hx).trans hy1).trans hy2) rfl (fun b hb => by omega) hkz, x.heap.size, .slice au cut.length cut.length, vq0, by omega, by rw [hdv']; exact hbz, hrc.blocks (fun a n c hv => hkz.block _ (by have h1 := hrb a n c hv; omega) (hav a n c hv)), ((hrb).ext (by omega)).mono (by omega), hav⟩
 rintro _ σ1 _ w5 ⟨rfl, rfl, h2, h4, h5, hE6, b7, sv, h7, hb7, hB7, hsv, hsb, hsne⟩
 have hEw5 := hEw4.trans hE6
 have d5 := sv_cells (n := 4) (Ext.at hE6 hB5) rfl
 have hdv5 := hdv4.ext hE6
 have hb7l : b7 < w5.heap.size := (Array.getElem?_eq_some_iff.1 hB7).1
 have hsA5 := Ext.at (hE14.trans hE6) hA
 have hsC5 := Ext.at (hE14.trans hE6) hC
 have e3 := hz.e0.size
 have e6 := hE6.size
 have hdlow : ∀ a n c, dv = .slice (some a) n c → a.block < w4.heap.size := fun a n c hv => (hdb4 a n c hv).2
 repeat refine c_r ?_
 refine rq ?_; intro gd K hgd hK
 try simp (disch := first | omega | assumption | rfl) only [↓reduceIte, go_sem, Nat.reduceLT, Nat.reduceEqDiff, Nat.reduceSub, h5, d5]
 refine Fn.mono hosts_ok ?_
 rintro _ w6 ⟨rfl, hE7, hs7, hb8⟩
 try simp (disch := first | omega | assumption | rfl) only [↓reduceIte, go_sem, Nat.reduceLT, Nat.reduceEqDiff, Nat.reduceSub]
 refine hK _ _ ?_; clear hK hgd; clear K; try clear gd
 have hEw6 := hEw5.trans hE7
 have tyEq : datC R cut 2 ≠ [] → ty = 2 := fun h => hty (datC_ne.2 h)
 -- the hosts, whatever the type says of no records
 have hH : hostsL ty (datC R cut 2) = hostsL 2 (datC R cut 2) := by
  by_cases hne : datC R cut 2 = []
  ·rw [hne]; unfold hostsL targetsL; split <;> split <;> rfl
  ·rw [tyEq hne]
 have hit := hostsIt (C := fun b => b = b7) (hz.e0.trans hEw6) hb8 how rfl (hdv5.ext hE7) (fun b hb => by omega) (by have := datC_len (R := R) (n := cut) (t := 2); have := hz.rl; omega) (targets_good hR (t := 2) (n := cut) (fun d hd => hd))
 rw [hH] at hit
 obtain ⟨D, hD⟩ : ∃ D, w6.heap.size = D := ⟨_, rfl⟩
 have hHl : (hostsL 2 (datC R cut 2)).length ≤ 1000000000 := by
  have h1 := hostsG_len [] (targetsL 2 (datC R cut 2))
  have h2 := targets_len 2 (datC R cut 2)
  have h3 := datC_len (R := R) (n := cut) (t := 2)
  have h4 := hz.rl
  unfold hostsL; omega
 have hHg : ∀ x ∈ hostsL 2 (datC R cut 2), NmG x := fun x hx => targets_good hR (t := 2) (n := cut) (fun d hd => hd) x (hostsG_mem _ _ x hx)
 have hslow : ∀ a n c, sv = .slice (some a) n c → a.block < w5.heap.size := fun a n c hv => (hsb a n c hv).2
 repeat refine c_r ?_
 refine W_rangeU (g := 177) (cap := #[.pointer (some ⟨w5.heap.size, 0, Option.none⟩)]) (vq0) rfl hit (Keep.refl _ _) (Nat.le_refl _) (fun b hb => by omega)
  (fun x U B args h => by obtain ⟨v, h, _⟩ := h; rw [h]; rfl)
  (RfI w0 w D w.heap.size (w.heap.size + 1) b7 ov lv dv sv cut R (datC R cut 2))
  (fun _ _ _ => False) ?_ (fun _ _ _ _ h _ => h.elim) ?_ ?_ ?_ (fun _ _ _ _ _ _ h _ => h.elim)
 ·rintro pre U A B ⟨i1, isz, i2, i3, i4, i5, gv, G, i6, i7, i8, i9, i10⟩ hU hk
  have hsA := (Array.getElem?_eq_some_iff.1 i6).1
  have hks := hk.size
  have hlow : ∀ b, b < D → ¬ span w6.heap.size (2 + 1) b := fun b hb => by unfold span; omega
  refine ⟨Keep.to_ext i1 rfl (fun b hb => by unfold span at hb; omega) hk, by omega, (hk.block _ (Array.getElem?_eq_some_iff.1 i2).1 (hlow _ (by omega))).trans i2, (hk.block _ (Array.getElem?_eq_some_iff.1 i3).1 (hlow _ (by omega))).trans i3, ?_, ?_, gv, G, (hk.block _ hsA (hlow _ (by omega))).trans i6, i7, i8.keep hk (fun b hb h => by have := (i8.ge hb).1; unfold span at h; omega), fun x hx => ?_, i10⟩
  ·exact i4.blocks fun a n c hv => by
    have h1 := hdlow a n c hv
    exact hk.block _ (by have := i1.size; omega) (hlow _ (by omega))
  ·exact i5.blocks fun a n c hv => by
    have h1 := hslow a n c hv
    exact hk.block _ (by omega) (hlow _ (by omega))
  ·obtain ⟨j1, j2, j3, j4⟩ := i9 x hx
   exact ⟨j1, j2.keep hk j3 (fun b hb _ => by unfold span; omega), j3.ext hk.size, j4⟩
 ·exact ⟨hEw6, by omega, Ext.at hE7 hsA5, Ext.at hE7 hsC5, hdv5.ext hE7, hsv.ext hE7, .slice Option.none 0 0, [], Ext.at hE7 hB7, rfl, Owns.nil _ _ _ _ _, fun x h => absurd h (by simp), fun b => ⟨fun h => h.elim, fun h => by cases h⟩⟩
 ·rintro lp pre U x A args ⟨suf, hxs⟩ hszA ⟨i1, isz, i2, i3, i4, i5, gv, G, i6, i7, i8, i9, i10⟩ hUb ⟨xv, rfl, hxr⟩
  obtain ⟨ax, cx, hxv, _⟩ := id hxr
  have hxg : NmG x := hHg x (by rw [hxs]; simp)
  have hpl : pre.length + 1 ≤ (hostsL 2 (datC R cut 2)).length := by rw [hxs]; simp
  refine rq ?_; intro gd K hgd hK
  try simp (disch := first | omega | assumption | rfl) only [↓reduceIte, go_sem, Nat.reduceLT, Nat.reduceEqDiff, Nat.reduceSub]
  refine hK _ _ ?_; clear hK hgd; clear K; try clear gd
  refine thenQ_normal ?_
  refine ⟨rfl, Keep.refl _ _, fun Y hY => ?_⟩
  have hlow : ∀ b, b < D → ¬ two w6.heap.size b := fun b hb => by unfold two; omega
  have hhigh : ∀ b, D + 2 ≤ b → ¬ two w6.heap.size b := fun b hb => by unfold two; omega
  have hYs := hY.size
  have k2 := (hY.block _ (Array.getElem?_eq_some_iff.1 i2).1 (hlow _ (by omega))).trans i2
  have k3 := (hY.block _ (Array.getElem?_eq_some_iff.1 i3).1 (hlow _ (by omega))).trans i3
  have k6 := (hY.block _ (Array.getElem?_eq_some_iff.1 i6).1 (hlow _ (by omega))).trans i6
  have k4 : Rows 5 (DatAt w0) Y dv (datC R cut 2) := i4.blocks fun a n c hv => hY.block _ (by have := hdlow a n c hv; omega) (hlow _ (by have := hdlow a n c hv; omega))
  have k5 : Row Y sv (cut.map vs) := i5.blocks fun a n c hv => hY.block _ (by have := hslow a n c hv; omega) (hlow _ (by have := hslow a n c hv; omega))
  have k8 := i8.keep hY (fun b hb => hhigh b (by have := (i8.ge hb).1; omega))
  have k9 : ∀ x ∈ G, Row w0 x.2.1 (x.1.1.map vs) ∧ Rows 5 (DatAt w0) Y x.2.2 x.1.2 ∧ BlkB (D + 3) Y x.2.2 ∧ ∀ a n c, x.2.2 = .slice (some a) n c → some a.block ≠ gv.ownBlock := fun x hx => by
   obtain ⟨j1, j2, j3, j4⟩ := i9 x hx
   exact ⟨j1, j2.keep hY j3 (fun b hb _ => hhigh b (by omega)), j3.ext hYs, j4⟩
  have hwY : Ext w Y := Keep.to_ext i1 rfl (fun b hb => by unfold two at hb; omega) hY
  have hw0Y := hz.e0.trans hwY
  have d2 := sv_cells (n := 2) (l := [ov, lv]) k2 rfl
  have hzY := hz.ext hwY
  clear i1 i2 i3 i4 i5 i6 i8 i9
  repeat refine c_r ?_
  refine rq ?_; intro gd K hgd hK
  try simp (disch := first | omega | assumption | rfl) only [↓reduceIte, go_sem, Nat.reduceLT, Nat.reduceEqDiff, Nat.reduceSub, h2, d2]
  refine Fn.mono (Glue_ok hzY (hxr.ext hw0Y) hxg.m.s) ?_
  rintro gl Y1 ⟨hY1, hgr, hgb⟩
  obtain ⟨ag, cg, hgv, hcg, _⟩ := hgr.open
  try simp (disch := first | omega | assumption | rfl) only [↓reduceIte, go_sem, Nat.reduceLT, Nat.reduceEqDiff, Nat.reduceSub]
  refine hK _ _ ?_; clear hK hgd; clear K; try clear gd
  have hY1s := hY1.size
  repeat refine c_r ?_
  refine rg1 hgv ?_
  repeat refine c_r ?_
  refine wc0 ?_ ?_
  ·intro hlt
   simp only [decide_eq_true_eq] at hlt
   have hgne : glueL R x ≠ [] := List.length_pos_iff.1 (by omega)
   have k61 := Ext.at hY1 k6
   have g4 : cellO Y1 (some ⟨b7, 4, Option.none⟩) = some gv := sv_get (l := [vi 4, dv, sv, .bool false, gv]) k61 rfl
   have hgx : one xv = true := by rw [hxv]; rfl
   have hgo : one gl = true := by rw [hgv]; rfl
   repeat refine c_r ?_
   refine rq ?_; intro gd K hgd hK
   try simp (disch := first | omega | assumption | rfl) only [↓reduceIte, go_sem, Nat.reduceLT, Nat.reduceEqDiff, Nat.reduceSub, h7, g4, Nat.zero_add]
   rw [hxv]
   refine ⟨by kernel_rfl, ?_⟩
   rw [show bdV Tryz.prog 112 [(0, .slice ax (x.map vs).length cx), (1, .slice ag (glueL R x).length cg)] = some (.agg #[.slice ax (x.map vs).length cx, .slice ag (glueL R x).length cg]) from by kernel_rfl]
   rw [← hxv, ← hgv]
   try simp (disch := first | omega | assumption | rfl) only [↓reduceIte, go_sem, Nat.reduceLT, Nat.reduceEqDiff, Nat.reduceSub, h7, g4, Nat.zero_add]
   refine bs_oneR (a := ((x, glueL R x), (xv, gl))) (l := [xv, gl]) gl_shape (by rfl) (by rfl) (by rfl) (by rfl) ⟨rfl, hgx, hgo⟩ (by decide) ?_
   intro Y2 hY2 hsY2 hoY2
   try simp (disch := first | omega | assumption | rfl) only [↓reduceIte, go_sem, Nat.reduceLT, Nat.reduceEqDiff, Nat.reduceSub, h7, g4, Nat.zero_add]
   have hGl : G.length ≤ pre.length := by
    have h1 := congrArg List.length i7
    rw [List.length_map] at h1
    have h2 := glueOf_len R pre
    omega
   refine op_appR gl_shape ((k8.ext hY1).ext hY2) hoY2.rows (by rfl) (by rfl) (by rfl) (by rfl) (by rfl) (by rfl) (by decide) (vr0) (vr0) (by rw [List.length_singleton]; omega) (by decide) (by omega) ?_
   intro gv' Y3 hgv' _ hkY3 hfr
   try simp (disch := first | omega | assumption | rfl) only [↓reduceIte, go_sem, Nat.reduceLT, Nat.reduceEqDiff, Nat.reduceSub, h7, Nat.zero_add]
   have hown : ∀ b, some b = gv.ownBlock → D + 3 ≤ b ∧ b < Y.heap.size := fun b hb => k8.ge hb
   have hb7o : ¬ some b7 = gv.ownBlock := fun h => by have := hown b7 h; omega
   have k63 := (hkY3.block b7 (by omega) hb7o).trans (Ext.at hY2 k61)
   obtain ⟨ag', cg', hgv'', _⟩ := hgv'.rows.open
   refine sv_at (P := Tryz.prog) (t := 29) (j := 4) (l := [vi 4, dv, sv, .bool false, gv]) k63 (by simp) (by rw [hgv'']; rfl) rfl rfl ?_
   intro Y4 hsY4 hbY4 hkY4
   try simp (disch := first | omega | assumption | rfl) only [↓reduceIte, go_sem, Nat.reduceLT, Nat.reduceEqDiff, Nat.reduceSub]
   refine hK _ _ ?_; clear hK hgd; clear K; try clear gd
   have hY2s := hY2.size
   have hY3s := hkY3.size
   have hown' : ∀ b, some b = gv'.ownBlock → D + 3 ≤ b ∧ b < Y3.heap.size := fun b hb => hgv'.ge hb
   have hb7o' : ¬ some b7 = gv'.ownBlock := fun h => by have := hown' b7 h; omega
   -- from Y2 on: the row of one's own and b7 alone
   have hk24 : Keep (fun b => b = b7 ∨ some b = gv.ownBlock) Y2 Y4 := (hkY3.mono (fun b _ h => .inr h)).trans (hkY4.mono (fun b _ h => .inl h))
   have hYY2 := hY1.trans hY2
   have hYY4 : Keep (fun b => b = b7 ∨ some b = gv.ownBlock) Y Y4 := (hYY2.mono (fun b _ h => h.elim)).trans hk24
   have hlow2 : ∀ b, b < D → b ≠ b7 → ¬ (b = b7 ∨ some b = gv.ownBlock) := fun b hb hne h => by
    rcases h with h | h
    ·exact hne h
    ·have := hown b h; omega
   have hlowd : ∀ {v : Value} {L : Nat}, L ≤ D → (∀ a n c, v = .slice (some a) n c → a.block < L ∧ a.block ≠ b7) → ∀ a n c, v = .slice (some a) n c → Y4.heap[a.block]? = Y.heap[a.block]? := fun {v L} hL h a n c hv => by
    have h1 := h a n c hv
    exact hYY4.block _ (by omega) (hlow2 _ (by omega) h1.2)
   have dq : ∀ (q : Value) (yw : World), (∀ a n c, q = .slice (some a) n c → a.block < Y2.heap.size ∧ a.block ≠ b7 ∧ some a.block ≠ gv.ownBlock) → ∀ a n c, q = .slice (some a) n c → Y4.heap[a.block]? = Y2.heap[a.block]? := fun q yw h a n c hv => by
    obtain ⟨h1, h2, h3⟩ := h a n c hv
    exact hk24.block _ h1 (fun h => by
     rcases h with h | h
     ·exact h2 h
     ·exact h3 h)
   repeat refine c_r ?_
   refine ⟨fun b => some b = gv'.ownBlock, ⟨Keep.to_ext hwY rfl (fun b hb => by
     rcases hb with hb | hb
     ·omega
     ·have := hown b hb; omega) hYY4, by have := hYY4.size; omega, (hYY4.block _ (by omega) (hlow2 _ (by omega) (by omega))).trans k2, (hYY4.block _ (by omega) (hlow2 _ (by omega) (by omega))).trans k3, ?_, ?_, gv', G ++ [((x, glueL R x), (xv, gl))], by simpa using hbY4, ?_, hgv'.keep hkY4 (fun b hb h => hb7o' (h ▸ hb)), fun y hy => ?_, fun b => Iff.rfl⟩, fun b hb => ?_, ?_⟩
   ·exact k4.blocks (hlowd (L := w4.heap.size) (by omega) fun a n c hv => ⟨hdlow a n c hv, by have := hdlow a n c hv; omega⟩)
   ·exact k5.blocks (hlowd (L := w5.heap.size) (by omega) fun a n c hv => ⟨hslow a n c hv, hsne a n c hv⟩)
   ·rw [List.map_append, i7, glueOf_app, if_neg hgne]; rfl
   ·rcases List.mem_append.1 hy with hy | hy
    ·obtain ⟨j1, j2, j3, j4⟩ := k9 y hy
     have j3' : BlkB (D + 3) Y2 y.2.2 := (j3.ext hY1s).ext hY2s
     refine ⟨j1, ((j2.ext hY1).ext hY2).blocks (dq _ Y (fun a n c hv => ⟨(j3' a n c hv).2, by have := j3' a n c hv; omega, j4 a n c hv⟩)), j3'.ext (by omega), fun a n c hv hb => ?_⟩
     rcases hfr _ hb with h | h
     ·exact j4 a n c hv h
     ·have := (j3' a n c hv).2; omega
    ·rw [List.mem_singleton.1 hy]
     have hgb2 : BlkB Y.heap.size Y2 gl := hgb.ext hY2s
     refine ⟨hxr, (hgr.ext hY2).blocks (dq _ Y (fun a n c hv => ⟨(hgb2 a n c hv).2, by have := hgb2 a n c hv; omega, fun h => by have := hgb2 a n c hv; have := hown _ h; omega⟩)), (hgb2.ext (by omega)).mono (by omega), fun a n c hv hb => ?_⟩
     have h1 := hgb2 a n c hv
     rcases hfr _ hb with h | h
     ·have := hown _ h; omega
     ·omega
   ·rcases hfr b hb with h | h
    ·exact .inl ((i10 b).2 h)
    ·exact .inr ⟨by omega, by have := (hown' b hb).2; omega⟩
   ·exact hYY4.mono (fun b _ h => h.imp id (fun h => (i10 b).2 h))
  ·intro hge
   simp only [decide_eq_false_iff_not] at hge
   have hgnil : glueL R x = [] := List.length_eq_zero_iff.1 (by omega)
   repeat refine c_r ?_
   refine ⟨U, ⟨hwY.trans hY1, by omega, Ext.at hY1 k2, Ext.at hY1 k3, k4.ext hY1, k5.ext hY1, gv, G, Ext.at hY1 k6, by rw [glueOf_app, if_pos hgnil, List.append_nil]; exact i7, k8.ext hY1, fun y hy => ?_, i10⟩, fun b hb => .inl hb, hY1.mono (fun _ _ h => h.elim)⟩
   obtain ⟨j1, j2, j3, j4⟩ := k9 y hy
   exact ⟨j1, j2.ext hY1, j3.ext hY1s, j4⟩
 ·rintro xs U B rfl hszB hUb ⟨i1, isz, i2, i3, i4, i5, gv, G, i6, i7, i8, i9, i10⟩ hDB
  have d5' := sv_cells (n := 5) (l := [vi 4, dv, sv, .bool false, gv]) i6 rfl
  obtain ⟨agl, cgl, hgle, _⟩ := i8.rows.open
  obtain ⟨asv, csv, hsve, _⟩ := id i5
  have hDlt : w6.heap.size < B.heap.size := (Array.getElem?_eq_some_iff.1 hDB).1
  repeat refine c_r ?_
  refine rq ?_; intro gd K hgd hK
  try simp (disch := first | omega | assumption | rfl) only [↓reduceIte, go_sem, Nat.reduceLT, Nat.reduceEqDiff, Nat.reduceSub, h7, h4, d5']
  refine sv_all (P := Tryz.prog) (t := 31) (l := [vi 4, dv, sv, .bool false, gv]) i3 rfl (fun v h => by
   simp at h
   rcases h with rfl | rfl | rfl | rfl | rfl
   ·rfl
   ·rw [hdv']; rfl
   ·rw [hsve]; rfl
   ·rfl
   ·rw [hgle]; rfl) rfl rfl ?_
  intro z hz' hbz hkz
  try simp (disch := first | omega | assumption | rfl) only [↓reduceIte, go_sem, Nat.reduceLT, Nat.reduceEqDiff, Nat.reduceSub]
  refine hK _ _ ?_; clear hK hgd; clear K; try clear gd
  repeat refine c_r ?_
  refine ret_anyM (.inr rfl) Tryz.ntmps61 rfl ((hkz.block _ (by omega) (by omega)).trans hDB) ?_
  intro Z hkZ hsZ
  have hBZ : Keep (fun b => b = w.heap.size + 1 ∨ b = w6.heap.size) B Z := (hkz.mono (fun b _ h => .inl h)).trans (hkZ.mono (fun b _ h => .inr h))
  refine ⟨_, res_agg (x := ⟨w.heap.size + 1, 0, Option.none⟩) (k := 5) ((vq1 h4)) rfl rfl (sv_cells (l := [vi 4, dv, sv, .bool false, gv]) ((hkZ.block _ (by omega) (by omega)).trans hbz) rfl) res_nil, Keep.to_ext i1 rfl (fun b hb => by omega) hBZ, _, rfl, dv, sv, gv, rfl, ?_, ?_, ?_, ?_, ?_⟩
  ·exact i4.blocks fun a n c hv => hBZ.block _ (by have := hdlow a n c hv; omega) (by have h1 := hdb4 a n c hv; have := hdlow a n c hv; have h3 := hdb a n c hv; omega)
  ·exact hdb4.ext (by have := hBZ.size; omega)
  ·refine .inl ⟨i5.blocks fun a n c hv => hBZ.block _ (by have := hslow a n c hv; omega) (by have h1 := hsb a n c hv; omega), (hsb.ext (by have := hBZ.size; omega)).mono (by omega)⟩
  ·have hgZ : Rows 2 glC Z gv G := i8.rows.blocks fun a n c hv => hBZ.block _ (i8.blk a n c hv).2 (by have := i8.blk a n c hv; omega)
   have hgl := hgZ.mapM (C' := GlB w0 w.heap.size Z) Prod.fst (fun cs x hx hc => by
    obtain ⟨j1, j2, j3, j4⟩ := i9 x hx
    exact ⟨x.2.1, x.2.2, hc.1, j1, j2.blocks fun a n c hv => hBZ.block _ (j3 a n c hv).2 (by have := j3 a n c hv; omega), (j3.ext hBZ.size).mono (by omega)⟩)
   rw [i7] at hgl
   exact hgl
  ·exact (i8.blk.ext hBZ.size).mono (by omega)
end Go.Proofs.YtopbbjdembnfdaaGreat

namespace Go.Proofs.YtopbbjdembnfdaaGreat
open Go
set_option maxRecDepth 10000

def zeroRes : ResL := ⟨0, [], [], false, []⟩
def renamedL (R : List RecL) (q n : Nm) : Option ResL :=
 if datC R n 39 = [] then Option.none
 else if checkN (swapN q n (toN 39 ((datC R n 39).take 1))) = 0 then some ⟨5, (datC R n 39).take 1, swapN q n (toN 39 ((datC R n 39).take 1)), false, []⟩
 else some ⟨6, [], [], false, []⟩
def atL (R : List RecL) (n : Nm) (t : Int) (wild : Bool) : ResL :=
 if datC R n t ≠ [] then ⟨1, datC R n t, [], wild, []⟩
 else if datC R n 5 ≠ [] then ⟨5, (datC R n 5).take 1, toN 5 ((datC R n 5).take 1), wild, []⟩
 else ⟨2, [], [], wild, []⟩
theorem toN_m {R : List RecL} (hR : GoodR R) {n : Nm} {t u : Int} : NmM (toN u ((datC R n t).take 1)) := by
 unfold toN
 cases hq : (hostsL u ((datC R n t).take 1)).getLast? with
 | none => exact ⟨fun l h => (by cases h), by simp⟩
 | some x =>
  have h1 := List.mem_of_getLast? hq
  exact (targets_good hR (t := t) (n := n) (fun d hd => List.mem_of_mem_take hd) x (hostsG_mem _ _ x h1)).m

theorem nil_row (w : World) : Row w (.slice Option.none 0 0) (([] : Nm).map vs) := ⟨Option.none, 0, rfl, Nat.le_refl _, fun j h => absurd h (by simp)⟩

abbrev zR : List Value := [vi 0, .slice Option.none 0 0, .slice Option.none 0 0, .bool false, .slice Option.none 0 0]

set_option maxHeartbeats 1000000 in
theorem Renamed_ok {w0 w : World} {ov lv qv nv : Value} {o q n : Nm} {R : List RecL} (hz : ZnAt w0 w ov lv o R) (hR : GoodR R) (hq : Row w qv (q.map vs)) (hn : Row w nv (n.map vs)) (mq : NmM q) (mn : NmM n) (hu : under q n = true) :
  Fn Tryz.prog 62 #[.agg #[ov, lv], qv, nv] w (fun v w' => Ext w w' ∧ ∃ cs, v = .tuple #[.agg cs.toArray, .bool (renamedL R q n).isSome] ∧ ResB w0 w.heap.size w' cs ((renamedL R q n).getD zeroRes)) := by
 obtain ⟨ao, co, hov, _⟩ := id hz.org
 obtain ⟨al, cl, hlv, _⟩ := hz.recs.open
 rw [hov, hlv]
 refine enter Tryz.func62 Tryz.ntmps62 rfl rfl ?_
 repeat refine c_r ?_
 refine rg0 ?_
 repeat refine c_r ?_
 rw [← hov, ← hlv]
 rw [new_size]
 refine W_alloc2 ?_
 intro w1 hE1 hs1 hA hC
 have d2 := sv_cells (n := 2) (l := [ov, lv]) hA rfl
 have hz1 := hz.ext hE1
 refine rq ?_; intro gd K hgd hK
 try simp (disch := first | omega | assumption | rfl) only [↓reduceIte, go_sem, Nat.reduceLT, Nat.reduceEqDiff, Nat.reduceSub, d2]
 refine Fn.mono (First_ok hz1 hR (hn.ext hE1) mn.s) ?_
 rintro _ w2 ⟨hE2, dv, tv, rfl, hdv, hdb, htv⟩
 obtain ⟨bb, hbb⟩ : ∃ bb : Bool, decide (datC R n 39 ≠ []) = bb := ⟨_, rfl⟩
 rw [hbb]
 try simp (disch := first | omega | assumption | rfl) only [↓reduceIte, go_sem, Nat.reduceLT, Nat.reduceEqDiff, Nat.reduceSub]
 refine hK _ _ ?_; clear hK hgd; clear K; try clear gd
 have hC2 := hE2.at hC
 have s2 := hE2.size
 have hEw2 := hE1.trans hE2
 repeat refine c_r ?_
 refine rg0 ?_
 repeat refine c_r ?_
 by_cases hne : datC R n 39 ≠ []
 ·rw [decide_eq_true hne] at hbb
  subst hbb
  refine W_cond (t := false) (vq0) (fun h => by cases h) ?_
  intro _
  repeat refine c_r ?_
  refine rq ?_; intro gd K hgd hK
  try simp (disch := first | omega | assumption | rfl) only [↓reduceIte, go_sem, Nat.reduceLT, Nat.reduceEqDiff, Nat.reduceSub]
  refine Fn.mono (NSwap_ok w2 qv nv tv q n (toN 39 ((datC R n 39).take 1)) (hq.ext hEw2) (hn.ext hEw2) (htv.ext (hz.e0.trans hEw2)) mq mn (toN_m hR) hu) ?_
  rintro v w3 ⟨hE3, hgood, hbad⟩
  have hC3 := hE3.at hC2
  have s3 := hE3.size
  by_cases hck : checkN (swapN q n (toN 39 ((datC R n 39).take 1))) = 0
  ·obtain ⟨sv, rfl, hsv, hsvb⟩ := hgood hck
   obtain ⟨as1, cs1, hsv', _⟩ := id hsv
   obtain ⟨ad, cd, hdv', _⟩ := hdv.open
   have hren : renamedL R q n = some ⟨5, (datC R n 39).take 1, swapN q n (toN 39 ((datC R n 39).take 1)), false, []⟩ := by unfold renamedL; rw [if_neg hne, if_pos hck]
   try simp (disch := first | omega | assumption | rfl) only [↓reduceIte, go_sem, Nat.reduceLT, Nat.reduceEqDiff, Nat.reduceSub]
   refine hK _ _ ?_; clear hK hgd; clear K; try clear gd
   repeat refine c_r ?_
   refine rg0 ?_
   repeat refine c_r ?_
   refine wc0 ?_ ?_
   ·intro h; simp at h
   intro _
   repeat refine c_r ?_
   refine rq ?_; intro gd K hgd hK
   try simp (disch := first | omega | assumption | rfl) only [↓reduceIte, go_sem, Nat.reduceLT, Nat.reduceEqDiff, Nat.reduceSub]
   rw [hsv', hdv']
   refine ⟨by kernel_rfl, ?_⟩
   rw [show bdV Tryz.prog 31 [(0, vi 5), (2, .slice as1 ((swapN q n (toN 39 ((datC R n 39).take 1))).map vs).length cs1), (1, .slice ad ((datC R n 39).take 1).length cd)] = some (.agg #[vi 5, .slice ad ((datC R n 39).take 1).length cd, .slice as1 ((swapN q n (toN 39 ((datC R n 39).take 1))).map vs).length cs1, .bool false, .slice Option.none 0 0]) from by kernel_rfl]
   try simp (disch := first | omega | assumption | rfl) only [↓reduceIte, go_sem, Nat.reduceLT, Nat.reduceEqDiff, Nat.reduceSub]
   refine sv_all (P := Tryz.prog) (t := 31) (l := [vi 5, .slice ad ((datC R n 39).take 1).length cd, .slice as1 ((swapN q n (toN 39 ((datC R n 39).take 1))).map vs).length cs1, .bool false, .slice Option.none 0 0]) hC3 rfl (fun v h => by simp at h; rcases h with rfl | rfl | rfl | rfl | rfl <;> rfl) rfl rfl ?_
   intro z hz' hbz hkz
   try simp (disch := first | omega | assumption | rfl) only [↓reduceIte, go_sem, Nat.reduceLT, Nat.reduceEqDiff, Nat.reduceSub]
   refine hK _ _ ?_; clear hK hgd; clear K; try clear gd
   repeat refine c_r ?_
   refine ret_any (.inr rfl) Tryz.ntmps62 rfl (res_agg (x := ⟨w.heap.size + 1, 0, Option.none⟩) (k := 5) (vq0) rfl rfl (sv_cells hbz rfl) (res_tmp (v := .bool true) (vr0) res_nil)) ?_
   refine ⟨Keep.to_ext (hEw2.trans hE3) rfl (fun b hb => by omega) hkz, _, by rw [hren]; rfl, ?_⟩
   rw [hren]
   refine ⟨_, _, _, rfl, ?_, ?_, .inl ⟨?_, ?_⟩, Rows.nil _ _ _, BlkB.nil⟩
   ·rw [← hdv']
    exact (hdv.ext hE3).keep hkz (hdb.ext hE3.size) (fun b hb _ => by omega)
   ·rw [← hdv']
    exact (hdb.ext (by omega)).mono (by omega)
   ·rw [← hsv']
    exact hsv.keepB hkz hsvb (fun b hb _ => by omega)
   ·rw [← hsv']
    exact (hsvb.ext (by omega)).mono (by omega)
  ·have hv := hbad hck
   subst hv
   have hren : renamedL R q n = some ⟨6, [], [], false, []⟩ := by unfold renamedL; rw [if_neg hne, if_neg hck]
   try simp (disch := first | omega | assumption | rfl) only [↓reduceIte, go_sem, Nat.reduceLT, Nat.reduceEqDiff, Nat.reduceSub]
   refine hK _ _ ?_; clear hK hgd; clear K; try clear gd
   repeat refine c_r ?_
   refine rg0 ?_
   repeat refine c_r ?_
   refine wc0 ?_ ?_
   ·intro _
    repeat refine c_r ?_
    refine rq ?_; intro gd K hgd hK
    try simp (disch := first | omega | assumption | rfl) only [↓reduceIte, go_sem, Nat.reduceLT, Nat.reduceEqDiff, Nat.reduceSub]
    refine ⟨by kernel_rfl, ?_⟩
    rw [show bdV Tryz.prog 31 [(0, vi 6)] = some (.agg #[vi 6, .slice Option.none 0 0, .slice Option.none 0 0, .bool false, .slice Option.none 0 0]) from by kernel_rfl]
    try simp (disch := first | omega | assumption | rfl) only [↓reduceIte, go_sem, Nat.reduceLT, Nat.reduceEqDiff, Nat.reduceSub]
    refine sv_all (P := Tryz.prog) (t := 31) (l := [vi 6, .slice Option.none 0 0, .slice Option.none 0 0, .bool false, .slice Option.none 0 0]) hC3 rfl (fun v h => by simp at h; rcases h with rfl | rfl | rfl | rfl | rfl <;> rfl) rfl rfl ?_
    intro z hz' hbz hkz
    try simp (disch := first | omega | assumption | rfl) only [↓reduceIte, go_sem, Nat.reduceLT, Nat.reduceEqDiff, Nat.reduceSub]
    refine hK _ _ ?_; clear hK hgd; clear K; try clear gd
    repeat refine c_r ?_
    refine ret_any (.inr rfl) Tryz.ntmps62 rfl (res_agg (x := ⟨w.heap.size + 1, 0, Option.none⟩) (k := 5) (vq0) rfl rfl (sv_cells hbz rfl) (res_tmp (v := .bool true) (vr0) res_nil)) ?_
    exact ⟨Keep.to_ext (hEw2.trans hE3) rfl (fun b hb => by omega) hkz, _, by rw [hren]; rfl, by rw [hren]; exact ⟨_, _, _, rfl, Rows.nil _ _ _, BlkB.nil, .inr (nil_row _), Rows.nil _ _ _, BlkB.nil⟩⟩
   ·intro h; simp at h
 ·have hnil : datC R n 39 = [] := by simpa using hne
  have hren : renamedL R q n = Option.none := by unfold renamedL; rw [if_pos hnil]
  rw [decide_eq_false hne] at hbb
  subst hbb
  refine W_cond (t := true) (vq0) ?_ (fun h => by cases h)
  intro _
  repeat refine c_r ?_
  refine rq ?_; intro gd K hgd hK
  try simp (disch := first | omega | assumption | rfl) only [↓reduceIte, go_sem, Nat.reduceLT, Nat.reduceEqDiff, Nat.reduceSub]
  refine ⟨by kernel_rfl, ?_⟩
  rw [show bdV Tryz.prog 31 [] = some (.agg #[vi 0, .slice Option.none 0 0, .slice Option.none 0 0, .bool false, .slice Option.none 0 0]) from by kernel_rfl]
  try simp (disch := first | omega | assumption | rfl) only [↓reduceIte, go_sem, Nat.reduceLT, Nat.reduceEqDiff, Nat.reduceSub]
  refine sv_all (P := Tryz.prog) (t := 31) (l := zR) hC2 rfl (fun v h => by simp at h; rcases h with rfl | rfl | rfl | rfl | rfl <;> rfl) rfl rfl ?_
  intro z hz' hbz hkz
  try simp (disch := first | omega | assumption | rfl) only [↓reduceIte, go_sem, Nat.reduceLT, Nat.reduceEqDiff, Nat.reduceSub]
  refine hK _ _ ?_; clear hK hgd; clear K; try clear gd
  repeat refine c_r ?_
  refine ret_any (.inr rfl) Tryz.ntmps62 rfl (res_agg (x := ⟨w.heap.size + 1, 0, Option.none⟩) (k := 5) (vq0) rfl rfl (sv_cells hbz rfl) (res_tmp (v := .bool false) (vr0) res_nil)) ?_
  exact ⟨Keep.to_ext hEw2 rfl (fun b hb => by omega) hkz, _, by rw [hren]; rfl, by rw [hren]; exact ⟨_, _, _, rfl, Rows.nil _ _ _, BlkB.nil, .inr (nil_row _), Rows.nil _ _ _, BlkB.nil⟩⟩

set_option maxHeartbeats 1000000 in
theorem At_ok {w0 w : World} {ov lv nv : Value} {o n : Nm} {R : List RecL} {t : Int} {wild : Bool} (hz : ZnAt w0 w ov lv o R) (hR : GoodR R) (hn : Row w nv (n.map vs)) (mn : NmS n) :
  Fn Tryz.prog 64 #[.agg #[ov, lv], nv, vi t, .bool wild] w (fun v w' => Ext w w' ∧ ∃ cs, v = .agg cs.toArray ∧ ResB w0 w.heap.size w' cs (atL R n t wild)) := by
 obtain ⟨ao, co, hov, _⟩ := id hz.org
 obtain ⟨al, cl, hlv, _⟩ := hz.recs.open
 rw [hov, hlv]
 refine enter Tryz.func64 Tryz.ntmps64 rfl rfl ?_
 repeat refine c_r ?_
 refine rg0 ?_
 repeat refine c_r ?_
 rw [← hov, ← hlv]
 rw [new_size]
 refine W_alloc2 ?_
 intro w1 hE1 hs1 hA hC
 have p1 : cellO w1 (some ⟨w.heap.size, 1, Option.none⟩) = some lv := cellO_at hA rfl
 have hz1 := hz.ext hE1
 refine rq ?_; intro gd K hgd hK
 try simp (disch := first | omega | assumption | rfl) only [↓reduceIte, go_sem, Nat.reduceLT, Nat.reduceEqDiff, Nat.reduceSub, p1, Nat.zero_add]
 refine Fn.mono (Of_ok hz1.e0 hz1.recs (hn.ext hE1) mn.lb (by have := mn.len; omega) hz.ok hz.rl) ?_
 rintro _ w2 ⟨hE2, ow, ty, tl, dv, rfl, how, hty, hdv, hdb⟩
 have hdd : (ofC R n t).map RecL.dat = datC R n t := rfl
 rw [hdd] at hdv
 obtain ⟨bb, hbb⟩ : ∃ bb : Bool, decide (datC R n t ≠ []) = bb := ⟨_, rfl⟩
 rw [show decide (ofC R n t ≠ []) = bb from by rw [← hbb]; exact decide_eq_decide.2 (datC_ne (R := R) (n := n) (t := t))]
 try simp (disch := first | omega | assumption | rfl) only [↓reduceIte, go_sem, Nat.reduceLT, Nat.reduceEqDiff, Nat.reduceSub]
 have hB3 := new_block w2 (.cells #[.slice Option.none 0 0, vi 0, v32 0, .slice Option.none 0 0] 209 (0, 0))
 have hE4 := Ext.alloc w2 (.cells #[.slice Option.none 0 0, vi 0, v32 0, .slice Option.none 0 0] 209 (0, 0))
 have hs4 := new_size w2 (.cells #[.slice Option.none 0 0, vi 0, v32 0, .slice Option.none 0 0] 209 (0, 0))
 revert hB3 hE4 hs4
 generalize w2.alloc (.cells #[.slice Option.none 0 0, vi 0, v32 0, .slice Option.none 0 0] 209 (0, 0)) = w3
 intro hB3 hE4 hs4
 obtain ⟨ad, cd, hdv', hcd, _⟩ := hdv.open
 refine sv_all (P := Tryz.prog) (t := 209) (l := [ow, vi ty, v32 tl, dv]) hB3 rfl (fun v h => by
  simp at h
  rcases h with rfl | rfl | rfl | rfl
  ·exact how
  ·rfl
  ·rfl
  ·rw [hdv']; rfl) rfl rfl ?_
 intro w4 hs5 hB5 hk5
 try simp (disch := first | omega | assumption | rfl) only [↓reduceIte, go_sem, Nat.reduceLT, Nat.reduceEqDiff, Nat.reduceSub]
 refine hK _ _ ?_; clear hK hgd; clear K; try clear gd
 have hE5 : Ext w2 w4 := Keep.to_ext hE4 rfl (fun b hb => by omega) hk5
 have hE14 := hE2.trans hE5
 have hEw4 := hE1.trans hE14
 have q3 : cellO w4 (some ⟨w2.heap.size, 3, Option.none⟩) = some dv := sv_get hB5 rfl
 have hdv4 := hdv.ext hE5
 have hdb4 : BlkB w1.heap.size w4 dv := hdb.ext hE5.size
 have hA4 := Ext.at hE14 hA
 have hC4 := Ext.at hE14 hC
 have e2 := hE14.size
 clear hB3 hE4 hs4 hk5 hs5
 repeat refine c_r ?_
 refine rg0 ?_
 repeat refine c_r ?_
 by_cases hne : datC R n t ≠ []
 ·rw [decide_eq_true hne] at hbb
  subst hbb
  have hat : atL R n t wild = ⟨1, datC R n t, [], wild, []⟩ := by unfold atL; rw [if_pos hne]
  refine W_cond (t := true) (vq0) ?_ (fun h => by cases h)
  intro _
  repeat refine c_r ?_
  refine rq ?_; intro gd K hgd hK
  try simp (disch := first | omega | assumption | rfl) only [↓reduceIte, go_sem, Nat.reduceLT, Nat.reduceEqDiff, Nat.reduceSub, q3, Nat.zero_add]
  rw [hdv']
  refine ⟨by kernel_rfl, ?_⟩
  rw [show bdV Tryz.prog 31 [(0, vi 1), (1, .slice ad (datC R n t).length cd), (3, .bool wild)] = some (.agg #[vi 1, .slice ad (datC R n t).length cd, .slice Option.none 0 0, .bool wild, .slice Option.none 0 0]) from by kernel_rfl]
  try simp (disch := first | omega | assumption | rfl) only [↓reduceIte, go_sem, Nat.reduceLT, Nat.reduceEqDiff, Nat.reduceSub]
  refine sv_all (P := Tryz.prog) (t := 31) (l := [vi 1, .slice ad (datC R n t).length cd, .slice Option.none 0 0, .bool wild, .slice Option.none 0 0]) hC4 rfl (fun v h => by simp at h; rcases h with rfl | rfl | rfl | rfl | rfl <;> rfl) rfl rfl ?_
  intro z hz' hbz hkz
  try simp (disch := first | omega | assumption | rfl) only [↓reduceIte, go_sem, Nat.reduceLT, Nat.reduceEqDiff, Nat.reduceSub]
  refine hK _ _ ?_; clear hK hgd; clear K; try clear gd
  repeat refine c_r ?_
  refine ret_any (.inr rfl) Tryz.ntmps64 rfl (res_agg (x := ⟨w.heap.size + 1, 0, Option.none⟩) (k := 5) (vq0) rfl rfl (sv_cells hbz rfl) res_nil) ?_
  refine ⟨Keep.to_ext hEw4 rfl (fun b hb => by omega) hkz, _, rfl, ?_⟩
  rw [hat]
  refine ⟨_, _, _, rfl, ?_, ?_, .inr (nil_row _), Rows.nil _ _ _, BlkB.nil⟩
  ·rw [← hdv']
   exact hdv4.keep hkz hdb4 (fun b hb _ => by omega)
  ·rw [← hdv']
   exact (hdb4.ext (by omega)).mono (by omega)
 ·have hnil : datC R n t = [] := by simpa using hne
  rw [decide_eq_false hne] at hbb
  subst hbb
  refine W_cond (t := false) (vq0) (fun h => by cases h) ?_
  intro _
  have d2 := sv_cells (n := 2) (l := [ov, lv]) hA4 rfl
  have hz4 := hz.ext hEw4
  repeat refine c_r ?_
  refine rq ?_; intro gd K hgd hK
  try simp (disch := first | omega | assumption | rfl) only [↓reduceIte, go_sem, Nat.reduceLT, Nat.reduceEqDiff, Nat.reduceSub, d2]
  refine Fn.mono (First_ok hz4 hR (hn.ext hEw4) mn) ?_
  rintro _ w5 ⟨hE6, fv, tv, rfl, hfv, hfb, htv⟩
  obtain ⟨b5, hb5⟩ : ∃ bb : Bool, decide (datC R n 5 ≠ []) = bb := ⟨_, rfl⟩
  rw [hb5]
  try simp (disch := first | omega | assumption | rfl) only [↓reduceIte, go_sem, Nat.reduceLT, Nat.reduceEqDiff, Nat.reduceSub]
  refine hK _ _ ?_; clear hK hgd; clear K; try clear gd
  have hC5 := Ext.at hE6 hC4
  have e6 := hE6.size
  have hEw5 := hEw4.trans hE6
  repeat refine c_r ?_
  refine rg0 ?_
  repeat refine c_r ?_
  by_cases hne5 : datC R n 5 ≠ []
  ·rw [decide_eq_true hne5] at hb5
   subst hb5
   obtain ⟨af, cf, hfv', _⟩ := hfv.open
   obtain ⟨at1, ct1, htv', _⟩ := id htv
   have hat : atL R n t wild = ⟨5, (datC R n 5).take 1, toN 5 ((datC R n 5).take 1), wild, []⟩ := by unfold atL; rw [if_neg hne, if_pos hne5]
   refine W_cond (t := true) (vq0) ?_ (fun h => by cases h)
   intro _
   repeat refine c_r ?_
   refine rq ?_; intro gd K hgd hK
   try simp (disch := first | omega | assumption | rfl) only [↓reduceIte, go_sem, Nat.reduceLT, Nat.reduceEqDiff, Nat.reduceSub]
   rw [hfv', htv']
   refine ⟨by kernel_rfl, ?_⟩
   rw [show bdV Tryz.prog 31 [(0, vi 5), (2, .slice at1 ((toN 5 ((datC R n 5).take 1)).map vs).length ct1), (1, .slice af ((datC R n 5).take 1).length cf), (3, .bool wild)] = some (.agg #[vi 5, .slice af ((datC R n 5).take 1).length cf, .slice at1 ((toN 5 ((datC R n 5).take 1)).map vs).length ct1, .bool wild, .slice Option.none 0 0]) from by kernel_rfl]
   try simp (disch := first | omega | assumption | rfl) only [↓reduceIte, go_sem, Nat.reduceLT, Nat.reduceEqDiff, Nat.reduceSub]
   refine sv_all (P := Tryz.prog) (t := 31) (l := [vi 5, .slice af ((datC R n 5).take 1).length cf, .slice at1 ((toN 5 ((datC R n 5).take 1)).map vs).length ct1, .bool wild, .slice Option.none 0 0]) hC5 rfl (fun v h => by simp at h; rcases h with rfl | rfl | rfl | rfl | rfl <;> rfl) rfl rfl ?_
   intro z hz' hbz hkz
   try simp (disch := first | omega | assumption | rfl) only [↓reduceIte, go_sem, Nat.reduceLT, Nat.reduceEqDiff, Nat.reduceSub]
   refine hK _ _ ?_; clear hK hgd; clear K; try clear gd
   repeat refine c_r ?_
   refine ret_any (.inr rfl) Tryz.ntmps64 rfl (res_agg (x := ⟨w.heap.size + 1, 0, Option.none⟩) (k := 5) (vq0) rfl rfl (sv_cells hbz rfl) res_nil) ?_
   have hEz : Ext w z := Keep.to_ext hEw5 rfl (fun b hb => by omega) hkz
   refine ⟨hEz, _, rfl, ?_⟩
   rw [hat]
   refine ⟨_, _, _, rfl, ?_, ?_, .inr ?_, Rows.nil _ _ _, BlkB.nil⟩
   ·rw [← hfv']
    exact hfv.keep hkz hfb (fun b hb _ => by omega)
   ·rw [← hfv']
    exact (hfb.ext (by omega)).mono (by omega)
   ·rw [← htv']
    exact htv
  ·rw [decide_eq_false hne5] at hb5
   subst hb5
   have hat : atL R n t wild = ⟨2, [], [], wild, []⟩ := by unfold atL; rw [if_neg hne, if_neg hne5]
   refine W_cond (t := false) (vq0) (fun h => by cases h) ?_
   intro _
   repeat refine c_r ?_
   refine rq ?_; intro gd K hgd hK
   try simp (disch := first | omega | assumption | rfl) only [↓reduceIte, go_sem, Nat.reduceLT, Nat.reduceEqDiff, Nat.reduceSub]
   refine ⟨by kernel_rfl, ?_⟩
   rw [show bdV Tryz.prog 31 [(0, vi 2), (3, .bool wild)] = some (.agg #[vi 2, .slice Option.none 0 0, .slice Option.none 0 0, .bool wild, .slice Option.none 0 0]) from by kernel_rfl]
   try simp (disch := first | omega | assumption | rfl) only [↓reduceIte, go_sem, Nat.reduceLT, Nat.reduceEqDiff, Nat.reduceSub]
   refine sv_all (P := Tryz.prog) (t := 31) (l := [vi 2, .slice Option.none 0 0, .slice Option.none 0 0, .bool wild, .slice Option.none 0 0]) hC5 rfl (fun v h => by simp at h; rcases h with rfl | rfl | rfl | rfl | rfl <;> rfl) rfl rfl ?_
   intro z hz' hbz hkz
   try simp (disch := first | omega | assumption | rfl) only [↓reduceIte, go_sem, Nat.reduceLT, Nat.reduceEqDiff, Nat.reduceSub]
   refine hK _ _ ?_; clear hK hgd; clear K; try clear gd
   repeat refine c_r ?_
   refine ret_any (.inr rfl) Tryz.ntmps64 rfl (res_agg (x := ⟨w.heap.size + 1, 0, Option.none⟩) (k := 5) (vq0) rfl rfl (sv_cells hbz rfl) res_nil) ?_
   refine ⟨Keep.to_ext hEw5 rfl (fun b hb => by omega) hkz, _, rfl, ?_⟩
   rw [hat]
   exact ⟨_, _, _, rfl, Rows.nil _ _ _, BlkB.nil, .inr (nil_row _), Rows.nil _ _ _, BlkB.nil⟩
end Go.Proofs.YtopbbjdembnfdaaGreat

namespace Go.Proofs.YtopbbjdembnfdaaGreat
open Go
set_option maxRecDepth 10000

def goL (o : Nm) (R : List RecL) (q : Nm) : List Nm → Option ResL
 | [] => Option.none
 | n :: l => if cutP o R n = true then some (referL R n) else if n.length = q.length then Option.none else match renamedL R q n with
  | some r => some r
  | Option.none => goL o R q l
def lookL (o : Nm) (R : List RecL) (q : Nm) (t : Int) : ResL :=
 if under q o = false then ⟨7, [], [], false, []⟩ else match goL o R q (downs o q) with
 | some r => r
 | Option.none => if existsL o R q = true then atL R q t false else match sourceL o R q with
  | some s => atL R s t true
  | Option.none => ⟨3, [], [], false, []⟩

def passL (o : Nm) (R : List RecL) (q n : Nm) : Prop := cutP o R n = false ∧ n.length ≠ q.length ∧ renamedL R q n = Option.none
theorem goL_pass {o : Nm} {R : List RecL} {q : Nm} : ∀ {pre l : List Nm}, (∀ n ∈ pre, passL o R q n) → goL o R q (pre ++ l) = goL o R q l
 | [], _, _ => rfl
 | n :: pre, l, h => by
  obtain ⟨h1, h2, h3⟩ := h n (List.mem_cons_self ..)
  rw [List.cons_append]
  simp only [goL]
  rw [h1, if_neg Bool.false_ne_true, if_neg h2, h3]
  exact goL_pass (fun m hm => h m (List.mem_cons_of_mem _ hm))
theorem where_out {o : Nm} {R : List RecL} {n : Nm} : whereL o R n = 0 ↔ under n o = false := by
 unfold whereL
 by_cases h : under n o = true
 ·rw [if_pos h, h]
  constructor
  ·intro h2
   split at h2
   ·cases h2
   ·split at h2 <;> cases h2
  ·intro h2; cases h2
 ·rw [if_neg h]
  simp at h
  simp [h]
theorem under_drop {q : Nm} {k : Nat} (hk : k ≤ q.length) : under q (q.drop k) = true := by
 unfold under
 rw [Bool.and_eq_true, decide_eq_true_eq, decide_eq_true_eq]
 refine ⟨by simp, ?_⟩
 rw [List.length_drop, show q.length - (q.length - k) = k from by omega]
theorem NmM.drop {n : Nm} (h : NmM n) (k : Nat) : NmM (n.drop k) := ⟨fun l hl => h.lb l (List.drop_subset _ _ hl), by have := h.len; simp; omega⟩
set_option maxHeartbeats 1000000 in
theorem Zone_ok {w0 w : World} {ov lv qv : Value} {o q : Nm} {R : List RecL} {t : Int} (hz : ZnAt w0 w ov lv o R) (hR : GoodR R) (hq : Row w qv (q.map vs)) (mq : NmM q) :
  Fn Tryz.prog 18 #[.agg #[ov, lv], qv, vi t] w (fun v w' => Ext w w' ∧ ∃ cs, v = .agg cs.toArray ∧ ResB w0 w.heap.size w' cs (lookL o R q t)) := by
 obtain ⟨ao, co, hov, _⟩ := id hz.org
 obtain ⟨al, cl, hlv, _⟩ := hz.recs.open
 obtain ⟨aq, cq, hqv, _⟩ := id hq
 rw [List.length_map] at hov hqv
 rw [hov, hlv, hqv]
 refine enter Tryz.func18 Tryz.ntmps18 rfl rfl ?_
 repeat refine c_r ?_
 refine rg0 ?_
 repeat refine c_r ?_
 rw [← hov, ← hlv, ← hqv]
 simp only [new_size]
 refine W_alloc3 ?_
 intro w1 hE1 hs1 hA hB hC
 have d2 := sv_cells (n := 2) (l := [ov, lv]) hA rfl
 have dq : cellO w1 (some ⟨w.heap.size + 1, 0, Option.none⟩) = some qv := cellO_at hB rfl
 have hz1 := hz.ext hE1
 have ql := mq.len
 have hqo : (q.map vs).length = q.length := List.length_map ..
 refine rq ?_; intro gd K hgd hK
 try simp (disch := first | omega | assumption | rfl) only [↓reduceIte, go_sem, Nat.reduceLT, Nat.reduceEqDiff, Nat.reduceSub, d2, dq]
 refine Fn.mono (Where_ok hz1 (hq.ext hE1) mq.s) ?_
 rintro _ w2 ⟨rfl, hE2⟩
 try simp (disch := first | omega | assumption | rfl) only [↓reduceIte, go_sem, Nat.reduceLT, Nat.reduceEqDiff, Nat.reduceSub]
 refine hK _ _ ?_; clear hK hgd; clear K; try clear gd
 have hEw2 := hE1.trans hE2
 have hA2 := hE2.at hA
 have hB2 := hE2.at hB
 have hC2 := hE2.at hC
 have s2 := hE2.size
 -- a result into its variable, and the end
 repeat refine c_r ?_
 refine wc0 ?_ ?_
 ·intro hw
  simp only [decide_eq_true_eq] at hw
  have hu := where_out.1 hw
  have hlk : lookL o R q t = ⟨7, [], [], false, []⟩ := by unfold lookL; rw [if_pos hu]
  repeat refine c_r ?_
  refine rq ?_; intro gd K hgd hK
  try simp (disch := first | omega | assumption | rfl) only [↓reduceIte, go_sem, Nat.reduceLT, Nat.reduceEqDiff, Nat.reduceSub]
  refine ⟨by kernel_rfl, ?_⟩
  rw [show bdV Tryz.prog 31 [(0, vi 7)] = some (.agg #[vi 7, .slice Option.none 0 0, .slice Option.none 0 0, .bool false, .slice Option.none 0 0]) from by kernel_rfl]
  try simp (disch := first | omega | assumption | rfl) only [↓reduceIte, go_sem, Nat.reduceLT, Nat.reduceEqDiff, Nat.reduceSub]
  refine sv_all (P := Tryz.prog) (t := 31) (l := [vi 7, .slice Option.none 0 0, .slice Option.none 0 0, .bool false, .slice Option.none 0 0]) hC2 rfl (fun v h => by simp at h; rcases h with rfl | rfl | rfl | rfl | rfl <;> rfl) rfl rfl ?_
  intro z hz' hbz hkz
  try simp (disch := first | omega | assumption | rfl) only [↓reduceIte, go_sem, Nat.reduceLT, Nat.reduceEqDiff, Nat.reduceSub]
  refine hK _ _ ?_; clear hK hgd; clear K; try clear gd
  repeat refine c_r ?_
  refine ret_any (.inr rfl) Tryz.ntmps18 rfl (res_agg (x := ⟨w.heap.size + 1 + 1, 0, Option.none⟩) (k := 5) (vq0) rfl rfl (sv_cells hbz rfl) res_nil) ?_
  exact ⟨Keep.to_ext hEw2 rfl (fun b hb => by omega) hkz, _, rfl, by rw [hlk]; exact ⟨_, _, _, rfl, Rows.nil _ _ _, BlkB.nil, .inr (nil_row _), Rows.nil _ _ _, BlkB.nil⟩⟩
 intro hw
 simp only [decide_eq_false_iff_not] at hw
 have hu : under q o = true := by
  cases h : under q o with
  | true => rfl
  | false => exact absurd (where_out.2 h) hw
 have d2' := sv_cells (n := 2) (l := [ov, lv]) hA2 rfl
 have dq' : cellO w2 (some ⟨w.heap.size + 1, 0, Option.none⟩) = some qv := cellO_at hB2 rfl
 repeat refine c_r ?_
 refine rq ?_; intro gd K hgd hK
 try simp (disch := first | omega | assumption | rfl) only [↓reduceIte, go_sem, Nat.reduceLT, Nat.reduceEqDiff, Nat.reduceSub, d2', dq']
 refine Fn.mono (Down_ok ⟨_, _, _, hqv⟩) ?_
 rintro _ w3 ⟨rfl, hE3, hs3, hbz, hbn⟩
 try simp (disch := first | omega | assumption | rfl) only [↓reduceIte, go_sem, Nat.reduceLT, Nat.reduceEqDiff, Nat.reduceSub]
 refine hK _ _ ?_; clear hK hgd; clear K; try clear gd
 have hEw3 := hEw2.trans hE3
 have hz3 := hz.ext hEw3
 have hq3 := hq.ext hEw3
 have hA3 := hE3.at hA2
 have hB3 := hE3.at hB2
 have hC3 := hE3.at hC2
 obtain ⟨D, hD⟩ : ∃ D, w3.heap.size = D := ⟨_, rfl⟩
 have hdm : ∀ {x}, x ∈ downs o q → ∃ k, k ≤ q.length ∧ x = q.drop k := fun {x} hx => by
  unfold downs at hx
  split at hx
  ·obtain ⟨i, hi, h⟩ := downF_mem.1 hx
   exact ⟨i, by omega, h⟩
  ·cases hx
 repeat refine c_r ?_
 refine W_mono (Q := fun e σ' ds' v' => ((e = .normal ∨ e = .exit 0) ∧ ds' = [{ target := .collected w3.heap.size, args := #[] }] ∧ v'.heap[w3.heap.size]? = some (.deferred (some [])) ∧ σ' 3 = .pointer (some ⟨w.heap.size, 0, Option.none⟩) ∧ σ' 4 = .pointer (some ⟨w.heap.size + 1, 0, Option.none⟩) ∧ σ' 6 = .pointer (some ⟨w.heap.size + 1 + 1, 0, Option.none⟩) ∧ σ' 2 = vi t ∧ Ext w3 v' ∧ goL o R q (downs o q) = Option.none) ∨
   (e = .ret ∧ ds' = [{ target := .collected w3.heap.size, args := #[] }] ∧ v'.heap[w3.heap.size]? = some (.deferred (some [])) ∧ σ' 6 = .pointer (some ⟨w.heap.size + 1 + 1, 0, Option.none⟩) ∧ Ext w v' ∧ ∃ r cs, goL o R q (downs o q) = some r ∧ v'.heap[w.heap.size + 1 + 1]? = some (.cells cs.toArray 31 (0, 0)) ∧ ResB w0 (w3.heap.size + 2) v' cs r)) ?_ ?_
 ·refine W_range (g := 125) (cap := #[.pointer (some ⟨w2.heap.size + 1, 0, Option.none⟩), .pointer (some ⟨w2.heap.size, 0, Option.none⟩)]) (vq0) rfl (downIt (C := fun b => b = w.heap.size + 1 + 1) hbn hbz hq hz3.org (by omega) (by omega) hz.ol (by omega)) (Keep.refl _ _) (Nat.le_refl _) (fun b hb => by omega)
   (fun x B args h => by obtain ⟨v, h, _⟩ := h; rw [h]; rfl)
   (fun pre B => Ext w3 B ∧ ∀ x ∈ pre, passL o R q x)
   (fun c pre B => (c = .exit 0 ∧ Ext w3 B ∧ ∃ pre' x, pre = pre' ++ [x] ∧ (∀ y ∈ pre', passL o R q y) ∧ cutP o R x = false ∧ x.length = q.length) ∨
    (c = .ret ∧ Ext w B ∧ ∃ pre' x r cs, pre = pre' ++ [x] ∧ (∀ y ∈ pre', passL o R q y) ∧ (∀ l, goL o R q (x :: l) = some r) ∧ B.heap[w.heap.size + 1 + 1]? = some (.cells cs.toArray 31 (0, 0)) ∧ ResB w0 (w3.heap.size + 2) B cs r)) ?_ ?_ ?_ ?_ ?_ ?_
  ·rintro pre B B' ⟨hEB, hp⟩ hk
   exact ⟨Keep.to_ext hEB rfl (fun b hb => by unfold two at hb; omega) hk, hp⟩
  ·rintro c pre B B' h hk
   rcases h with ⟨rfl, hEB, h⟩ | ⟨rfl, hEB, pre', x, r, cs, h1, h2, h3, h4, h5⟩
   ·exact .inl ⟨rfl, Keep.to_ext hEB rfl (fun b hb => by unfold two at hb; omega) hk, h⟩
   ·exact .inr ⟨rfl, Keep.to_ext hEB rfl (fun b hb => by unfold two at hb; omega) hk, pre', x, r, cs, h1, h2, h3, (hk.block _ (Array.getElem?_eq_some_iff.1 h4).1 (by unfold two; omega)).trans h4, h5.keep hk (fun b hb _ => by unfold two; omega)⟩
  ·exact ⟨Keep.refl _ _, fun x h => absurd h (by simp)⟩
  ·rintro lp pre x suf B args hxs hszB ⟨hEB, hp⟩ ⟨xv, rfl, hxr⟩
   obtain ⟨kx, hkx, hxk⟩ := hdm (x := x) (by rw [hxs]; simp)
   have mx : NmM x := hxk ▸ mq.drop kx
   have hux : under q x = true := by rw [hxk]; exact under_drop hkx
   have hxl := mx.len
   obtain ⟨ax, cx, hxv, _⟩ := id hxr
   rw [List.length_map] at hxv
   have hol := hz.ol
   refine rq ?_; intro gd K hgd hK
   try simp (disch := first | omega | assumption | rfl) only [↓reduceIte, go_sem, Nat.reduceLT, Nat.reduceEqDiff, Nat.reduceSub]
   refine hK _ _ ?_; clear hK hgd; clear K; try clear gd
   refine thenQ_normal ?_
   refine ⟨rfl, KeepB.refl _ _ _, fun Y hY => ?_⟩
   have hEY : Ext w3 Y := Keep.to_ext hEB rfl (fun b hb => by unfold two at hb; omega) hY
   have hzY := hz3.ext hEY
   have p0 : cellO Y (some ⟨w.heap.size, 0, Option.none⟩) = some ov := cellO_at (hEY.at hA3) rfl
   have d2 := sv_cells (n := 2) (l := [ov, lv]) (hEY.at hA3) rfl
   have dq : cellO Y (some ⟨w.heap.size + 1, 0, Option.none⟩) = some qv := cellO_at (hEY.at hB3) rfl
   have hYs := hY.size
   have hxY : Row Y xv (x.map vs) := hxr.ext (hEw3.trans hEY)
   have hqY := hq3.ext hEY
   have hCY := hEY.at hC3
   rw [hov] at p0
   repeat refine c_r ?_
   refine W_mono (Q := fun e σ' ds' v' => e = .normal ∧ ds' = [] ∧ σ' 7 = xv ∧ σ' 3 = .pointer (some ⟨w.heap.size, 0, Option.none⟩) ∧ σ' 4 = .pointer (some ⟨w.heap.size + 1, 0, Option.none⟩) ∧ σ' 6 = .pointer (some ⟨w.heap.size + 1 + 1, 0, Option.none⟩) ∧ Ext Y v' ∧ σ' 31 = .bool (cutP o R x)) ?_ ?_
   ·by_cases hl : (o.length : Int) < (x.length : Int)
    ·refine rq ?_; intro gd K hgd hK
     have hg6 : ∀ n σ b, wantV gd n σ (some (6, b)) = boolIs (ev n σ (.tmp 27)) b := (fun n σ b => by rw [wantV_some, show gd 6 = some 27 from (by rw [hgd]; rfl)]; rfl)
     try simp (disch := first | omega | assumption | rfl) only [↓reduceIte, go_sem, Nat.reduceLT, Nat.reduceEqDiff, Nat.reduceSub, hxv, p0, d2, decide_eq_true hl, Nat.add_zero, ↓hg6]
     rw [← hxv]
     refine Fn.mono (Has_ok hzY hxY mx.s) ?_
     rintro _ Y2 ⟨rfl, hY2⟩
     try simp (disch := first | omega | assumption | rfl) only [↓reduceIte, go_sem, Nat.reduceLT, Nat.reduceEqDiff, Nat.reduceSub]
     refine hK _ _ ?_; clear hK hgd; clear K; try clear gd
     refine ⟨rfl, rfl, vq0, vq0, vq0, vq0, hY2, ?_⟩
     unfold cutP hasL
     rw [show decide (o.length < x.length) = true from decide_eq_true (by omega), Bool.true_and]
     simp only [↓reduceIte, go_sem, Nat.reduceLT, Nat.reduceEqDiff, Nat.reduceSub]
    ·refine rq ?_; intro gd K hgd hK
     have hg6 : ∀ n σ b, wantV gd n σ (some (6, b)) = boolIs (ev n σ (.tmp 27)) b := (fun n σ b => by rw [wantV_some, show gd 6 = some 27 from (by rw [hgd]; rfl)]; rfl)
     try simp (disch := first | omega | assumption | rfl) only [↓reduceIte, go_sem, Nat.reduceLT, Nat.reduceEqDiff, Nat.reduceSub, hxv, p0, decide_eq_false hl, Nat.add_zero, ↓hg6]
     rw [← hxv]
     refine hK _ _ ?_; clear hK hgd; clear K; try clear gd
     refine ⟨rfl, rfl, vq0, vq0, vq0, vq0, Keep.refl _ _, ?_⟩
     unfold cutP hasL
     rw [show decide (o.length < x.length) = false from decide_eq_false (by omega), Bool.false_and]
     simp only [↓reduceIte, go_sem, Nat.reduceLT, Nat.reduceEqDiff, Nat.reduceSub]
   rintro _ σ1 _ Y1 ⟨rfl, rfl, h7, h3, h4, h6, hY1, h31⟩
   have hEY1 := hEY.trans hY1
   have hY1s := hY1.size
   repeat refine c_r ?_
   refine W_cond (t := cutP o R x) ((vq1 h31)) ?_ ?_
   ·intro ht
    have d2' := cellsO_ext hY1 d2
    repeat refine c_r ?_
    refine rq ?_; intro gd K hgd hK
    try simp (disch := first | omega | assumption | rfl) only [↓reduceIte, go_sem, Nat.reduceLT, Nat.reduceEqDiff, Nat.reduceSub, h3, h7, d2']
    refine Fn.mono (Refer_ok (hzY.ext hY1) hR (hxY.ext hY1) mx.s) ?_
    rintro _ Y2 ⟨hY2, cs, rfl, hres⟩
    try simp (disch := first | omega | assumption | rfl) only [↓reduceIte, go_sem, Nat.reduceLT, Nat.reduceEqDiff, Nat.reduceSub, h6]
    have hY2s := hY2.size
    refine sv_all (P := Tryz.prog) (t := 31) (l := cs) (Ext.at (hY1.trans hY2) hCY) hres.cells.1 hres.cells.2 (by rw [hres.cells.1]; rfl) rfl ?_
    intro z hz' hbz2 hkz
    try simp (disch := first | omega | assumption | rfl) only [↓reduceIte, go_sem, Nat.reduceLT, Nat.reduceEqDiff, Nat.reduceSub]
    refine hK _ _ ?_; clear hK hgd; clear K; try clear gd
    repeat refine c_r ?_
    exact ⟨.inr ⟨rfl, Keep.to_ext (hEw3.trans (hEY1.trans hY2)) rfl (fun b hb => by omega) hkz, pre, x, referL R x, cs, rfl, hp, fun l => by simp only [goL]; rw [if_pos ht], hbz2, (hres.keep hkz (fun b hb _ => by omega)).mono (by omega)⟩, ((hY1.trans hY2).toB (by omega) (fun _ _ h => h.elim)).trans (hkz.toB (by omega) (fun i _ h => h))⟩
   intro ht
   have dq' := cellO_ext hY1 dq
   rw [hqv] at dq'
   repeat refine c_r ?_
   refine rg4 h7 h4 hxv dq' ?_
   repeat refine c_r ?_
   refine wc0 ?_ ?_
   ·intro hl
    simp only [decide_eq_true_eq] at hl
    repeat refine c_r ?_
    exact ⟨.inl ⟨rfl, hEY1, pre, x, rfl, hp, ht, by omega⟩, hY1.toB (by omega) (fun _ _ h => h.elim)⟩
   intro hl
   simp only [decide_eq_false_iff_not] at hl
   have d2' := cellsO_ext hY1 d2
   have dq'' := cellO_ext hY1 dq
   repeat refine c_r ?_
   refine rq ?_; intro gd K hgd hK
   try simp (disch := first | omega | assumption | rfl) only [↓reduceIte, go_sem, Nat.reduceLT, Nat.reduceEqDiff, Nat.reduceSub, h3, h4, h7, d2', dq'']
   refine Fn.mono (Renamed_ok (hzY.ext hY1) hR (hqY.ext hY1) (hxY.ext hY1) mq mx hux) ?_
   rintro _ Y2 ⟨hY2, cs, rfl, hres⟩
   try simp (disch := first | omega | assumption | rfl) only [↓reduceIte, go_sem, Nat.reduceLT, Nat.reduceEqDiff, Nat.reduceSub]
   have hB8 := new_block Y2 (.cells #[vi 0, .slice Option.none 0 0, .slice Option.none 0 0, .bool false, .slice Option.none 0 0] 31 (0, 0))
   have hE8 := Ext.alloc Y2 (.cells #[vi 0, .slice Option.none 0 0, .slice Option.none 0 0, .bool false, .slice Option.none 0 0] 31 (0, 0))
   have hs8 := new_size Y2 (.cells #[vi 0, .slice Option.none 0 0, .slice Option.none 0 0, .bool false, .slice Option.none 0 0] 31 (0, 0))
   revert hB8 hE8 hs8
   generalize Y2.alloc (.cells #[vi 0, .slice Option.none 0 0, .slice Option.none 0 0, .bool false, .slice Option.none 0 0] 31 (0, 0)) = Y3
   intro hB8 hE8 hs8
   refine sv_all (P := Tryz.prog) (t := 31) (l := cs) hB8 hres.cells.1 hres.cells.2 (by rw [hres.cells.1]; rfl) rfl ?_
   intro Y4 hs9 hB9 hk9
   try simp (disch := first | omega | assumption | rfl) only [↓reduceIte, go_sem, Nat.reduceLT, Nat.reduceEqDiff, Nat.reduceSub]
   refine hK _ _ ?_; clear hK hgd; clear K; try clear gd
   have hE24 : Ext Y2 Y4 := Keep.to_ext hE8 rfl (fun b hb => by omega) hk9
   have hY4 := hY2.trans hE24
   have hY4s := hY4.size
   have hres4 := hres.keep hE24 (fun b hb _ h => h)
   have d9 := sv_cells (n := 5) hB9 hres.cells.1.symm
   repeat refine c_r ?_
   refine rg0 ?_
   repeat refine c_r ?_
   refine W_cond (t := (renamedL R q x).isSome) (vq0) ?_ ?_
   ·intro hs
    obtain ⟨r, hr⟩ := Option.isSome_iff_exists.1 hs
    rw [hr] at hres4
    repeat refine c_r ?_
    refine rq ?_; intro gd K hgd hK
    try simp (disch := first | omega | assumption | rfl) only [↓reduceIte, go_sem, Nat.reduceLT, Nat.reduceEqDiff, Nat.reduceSub, d9, h6]
    refine sv_all (P := Tryz.prog) (t := 31) (l := cs) (Ext.at (hY1.trans hY4) hCY) hres.cells.1 hres.cells.2 (by rw [hres.cells.1]; rfl) rfl ?_
    intro z hz' hbz2 hkz
    try simp (disch := first | omega | assumption | rfl) only [↓reduceIte, go_sem, Nat.reduceLT, Nat.reduceEqDiff, Nat.reduceSub]
    refine hK _ _ ?_; clear hK hgd; clear K; try clear gd
    repeat refine c_r ?_
    exact ⟨.inr ⟨rfl, Keep.to_ext (hEw3.trans (hEY1.trans hY4)) rfl (fun b hb => by omega) hkz, pre, x, r, cs, rfl, hp, fun l => by simp only [goL]; rw [ht, if_neg Bool.false_ne_true, if_neg (by omega), hr], hbz2, (hres4.keep hkz (fun b hb _ => by omega)).mono (by omega)⟩, ((hY1.trans hY4).toB (by omega) (fun _ _ h => h.elim)).trans (hkz.toB (by omega) (fun i _ h => h))⟩
   ·intro hs
    have hnone : renamedL R q x = Option.none := by simpa using hs
    repeat refine c_r ?_
    refine ⟨⟨hEY1.trans hY4, fun y hy => ?_⟩, (hY1.trans hY4).toB (by omega) (fun _ _ h => h.elim)⟩
    rcases List.mem_append.1 hy with hy | hy
    ·exact hp y hy
    ·rw [List.mem_singleton.1 hy]; exact ⟨ht, by omega, hnone⟩
  ·intro B hszB ⟨hEB, hp⟩ hDB
   refine .inl ⟨.inl rfl, rfl, hDB, vq0, vq0, vq0, vq0, hEB, ?_⟩
   have := goL_pass (l := []) hp
   rw [List.append_nil] at this
   rw [this]; rfl
  ·rintro c pre x0 suf B hszB hxs h hDB
   rcases h with ⟨rfl, hEB, pre', x, hpre, h1, h2, h3⟩ | ⟨rfl, hEB, pre', x, r, cs, hpre, h1, h2, h3, h4⟩
   ·obtain ⟨rfl, h5⟩ := List.append_inj' hpre rfl
    have hx0 : x0 = x := by simpa using h5
    subst hx0
    refine W_exit ?_
    refine .inl ⟨.inr rfl, rfl, hDB, vq0, vq0, vq0, vq0, hEB, ?_⟩
    rw [hxs, goL_pass h1]
    simp only [goL]
    rw [h2, if_neg Bool.false_ne_true, if_pos h3]
   ·obtain ⟨rfl, h5⟩ := List.append_inj' hpre rfl
    have hx0 : x0 = x := by simpa using h5
    subst hx0
    refine W_ret ?_
    refine .inr ⟨rfl, rfl, hDB, vq0, hEB, r, cs, ?_, h3, h4⟩
    rw [hxs, goL_pass h1, h2]
 ·intro e σ1 ds1 v1 hcase
  rcases hcase with ⟨he, rfl, hDv, h3, h4, h6, h2, hEv, hgo⟩ | ⟨rfl, rfl, hDv, h6, hEv, r, cs, hgo, hbv, hres⟩
  ·refine blockQ_either he ?_
   have hlk : lookL o R q t = if existsL o R q = true then atL R q t false else match sourceL o R q with
     | some s => atL R s t true
     | Option.none => ⟨3, [], [], false, []⟩ := by
    unfold lookL
    rw [if_neg (by rw [hu]; decide), hgo]
   have hEwv := hEw3.trans hEv
   have hzv := hz3.ext hEv
   have hqv' := hq3.ext hEv
   have hCv := Ext.at hEv hC3
   have d2v := sv_cells (n := 2) (l := [ov, lv]) (Ext.at hEv hA3) rfl
   have dqv : cellO v1 (some ⟨w.heap.size + 1, 0, Option.none⟩) = some qv := cellO_at (Ext.at hEv hB3) rfl
   have hvs := hEv.size
   have hDlt : w3.heap.size < v1.heap.size := (Array.getElem?_eq_some_iff.1 hDv).1
   -- a result laid into its variable, and the end
   have fin : ∀ {Y z : World} {cs : List Value} {r : ResL} {σ' : Sto}, Ext v1 Y → ResB w0 v1.heap.size Y cs r → r = lookL o R q t → z.heap.size = Y.heap.size → z.heap[w.heap.size + 1 + 1]? = some (.cells cs.toArray 31 (0, 0)) → Keep (fun i => i = w.heap.size + 1 + 1) Y z → σ' 6 = .pointer (some ⟨w.heap.size + 1 + 1, 0, Option.none⟩) →
     z.heap[w3.heap.size]? = some (.deferred (some [])) ∧ ∀ Z, Keep (fun b => b = w3.heap.size) z Z → Z.heap.size = z.heap.size → ∃ rs, resV Tryz.prog 68 σ' Z [.cell 6 31] = some rs ∧ (Ext w Z ∧ ∃ cs, resT rs = .agg cs.toArray ∧ ResB w0 w.heap.size Z cs (lookL o R q t)) := fun {Y z cs r σ'} hY hres hr hzs hbz hkz h6' => by
    have hYs := hY.size
    refine ⟨(hkz.block _ (by omega) (by omega)).trans (Ext.at hY hDv), fun Z hkZ hsZ => ⟨_, res_agg (x := ⟨w.heap.size + 1 + 1, 0, Option.none⟩) (k := 5) ((vq1 h6')) rfl rfl (sv_cells ((hkZ.block _ (by omega) (by omega)).trans hbz) hres.cells.1.symm) res_nil, ?_, _, rfl, ?_⟩⟩
    ·exact Keep.to_ext (Keep.to_ext (hEwv.trans hY) rfl (fun b hb => by omega) hkz) rfl (fun b hb => by omega) hkZ
    ·rw [← hr]
     exact (((hres.keep hkz (fun b hb _ => by omega)).keep hkZ (fun b hb _ => by omega))).mono (by omega)
   repeat refine c_r ?_
   refine rq ?_; intro gd K hgd hK
   try simp (disch := first | omega | assumption | rfl) only [↓reduceIte, go_sem, Nat.reduceLT, Nat.reduceEqDiff, Nat.reduceSub, h3, h4, d2v, dqv]
   refine Fn.mono (Exists_ok hzv hqv' mq.s) ?_
   rintro _ Y1 ⟨rfl, hY1⟩
   try simp (disch := first | omega | assumption | rfl) only [↓reduceIte, go_sem, Nat.reduceLT, Nat.reduceEqDiff, Nat.reduceSub]
   refine hK _ _ ?_; clear hK hgd; clear K; try clear gd
   have hzY1 := hzv.ext hY1
   have d2y := cellsO_ext hY1 d2v
   have dqy := cellO_ext hY1 dqv
   have hY1s := hY1.size
   repeat refine c_r ?_
   refine W_cond (t := existsL o R q) (vq0) ?_ ?_
   ·intro hex
    rw [hex, if_pos rfl] at hlk
    repeat refine c_r ?_
    refine rq ?_; intro gd K hgd hK
    try simp (disch := first | omega | assumption | rfl) only [↓reduceIte, go_sem, Nat.reduceLT, Nat.reduceEqDiff, Nat.reduceSub, h3, h4, h2, d2y, dqy]
    refine Fn.mono (At_ok hzY1 hR (hqv'.ext hY1) mq.s) ?_
    rintro _ Y2 ⟨hY2, cs, rfl, hres⟩
    try simp (disch := first | omega | assumption | rfl) only [↓reduceIte, go_sem, Nat.reduceLT, Nat.reduceEqDiff, Nat.reduceSub, h6]
    have hY2s := hY2.size
    refine sv_all (P := Tryz.prog) (t := 31) (l := cs) (Ext.at (hY1.trans hY2) hCv) hres.cells.1 hres.cells.2 (by rw [hres.cells.1]; rfl) rfl ?_
    intro z hz' hbz2 hkz
    try simp (disch := first | omega | assumption | rfl) only [↓reduceIte, go_sem, Nat.reduceLT, Nat.reduceEqDiff, Nat.reduceSub]
    refine hK _ _ ?_; clear hK hgd; clear K; try clear gd
    repeat refine c_r ?_
    obtain ⟨f1, f2⟩ := fin (hY1.trans hY2) (hres.mono hY1s) hlk.symm hz' hbz2 hkz h6
    refine ret_anyM (.inr rfl) Tryz.ntmps18 rfl f1 ?_
    intro Z hkZ hsZ
    exact f2 Z hkZ hsZ
   intro hex
   rw [hex, if_neg Bool.false_ne_true] at hlk
   repeat refine c_r ?_
   refine rq ?_; intro gd K hgd hK
   try simp (disch := first | omega | assumption | rfl) only [↓reduceIte, go_sem, Nat.reduceLT, Nat.reduceEqDiff, Nat.reduceSub, h3, h4, d2y, dqy]
   refine Fn.mono (Source_ok hzY1 (hqv'.ext hY1) mq.s ql) ?_
   rintro _ Y2 ⟨hY2, sv, rfl, hsv⟩
   try simp (disch := first | omega | assumption | rfl) only [↓reduceIte, go_sem, Nat.reduceLT, Nat.reduceEqDiff, Nat.reduceSub]
   refine hK _ _ ?_; clear hK hgd; clear K; try clear gd
   have hY2s := hY2.size
   have hzY2 := hzY1.ext hY2
   have d2z := cellsO_ext hY2 d2y
   have dqz := cellO_ext hY2 dqy
   repeat refine c_r ?_
   refine rg0 ?_
   repeat refine c_r ?_
   refine W_cond (t := (sourceL o R q).isSome) (vq0) ?_ ?_
   ·intro hs
    obtain ⟨s0, hs0⟩ := Option.isSome_iff_exists.1 hs
    rw [hs0] at hlk hsv
    have hsn : s0 = sourceN o R q := by
     unfold sourceL at hs0
     split at hs0
     ·exact (Option.some.inj hs0).symm
     ·cases hs0
    have hss : NmS s0 := by rw [hsn]; exact star_ok mq.s ql
    repeat refine c_r ?_
    refine rq ?_; intro gd K hgd hK
    try simp (disch := first | omega | assumption | rfl) only [↓reduceIte, go_sem, Nat.reduceLT, Nat.reduceEqDiff, Nat.reduceSub, h3, h2, d2z]
    refine Fn.mono (At_ok hzY2 hR hsv hss) ?_
    rintro _ Y3 ⟨hY3, cs, rfl, hres⟩
    try simp (disch := first | omega | assumption | rfl) only [↓reduceIte, go_sem, Nat.reduceLT, Nat.reduceEqDiff, Nat.reduceSub, h6]
    have hY3s := hY3.size
    refine sv_all (P := Tryz.prog) (t := 31) (l := cs) (Ext.at ((hY1.trans hY2).trans hY3) hCv) hres.cells.1 hres.cells.2 (by rw [hres.cells.1]; rfl) rfl ?_
    intro z hz' hbz2 hkz
    try simp (disch := first | omega | assumption | rfl) only [↓reduceIte, go_sem, Nat.reduceLT, Nat.reduceEqDiff, Nat.reduceSub]
    refine hK _ _ ?_; clear hK hgd; clear K; try clear gd
    repeat refine c_r ?_
    obtain ⟨f1, f2⟩ := fin ((hY1.trans hY2).trans hY3) (hres.mono (by omega)) hlk.symm hz' hbz2 hkz h6
    refine ret_anyM (.inr rfl) Tryz.ntmps18 rfl f1 ?_
    intro Z hkZ hsZ
    exact f2 Z hkZ hsZ
   ·intro hs
    have hs0 : sourceL o R q = Option.none := by simpa using hs
    rw [hs0] at hlk
    repeat refine c_r ?_
    refine rq ?_; intro gd K hgd hK
    try simp (disch := first | omega | assumption | rfl) only [↓reduceIte, go_sem, Nat.reduceLT, Nat.reduceEqDiff, Nat.reduceSub, h6]
    refine ⟨by kernel_rfl, ?_⟩
    rw [show bdV Tryz.prog 31 [(0, vi 3)] = some (.agg #[vi 3, .slice Option.none 0 0, .slice Option.none 0 0, .bool false, .slice Option.none 0 0]) from by kernel_rfl]
    try simp (disch := first | omega | assumption | rfl) only [↓reduceIte, go_sem, Nat.reduceLT, Nat.reduceEqDiff, Nat.reduceSub, h6]
    refine sv_all (P := Tryz.prog) (t := 31) (l := [vi 3, .slice Option.none 0 0, .slice Option.none 0 0, .bool false, .slice Option.none 0 0]) (Ext.at (hY1.trans hY2) hCv) rfl (fun v h => by simp at h; rcases h with rfl | rfl | rfl | rfl | rfl <;> rfl) rfl rfl ?_
    intro z hz' hbz2 hkz
    try simp (disch := first | omega | assumption | rfl) only [↓reduceIte, go_sem, Nat.reduceLT, Nat.reduceEqDiff, Nat.reduceSub]
    refine hK _ _ ?_; clear hK hgd; clear K; try clear gd
    repeat refine c_r ?_
    obtain ⟨f1, f2⟩ := fin (r := ⟨3, [], [], false, []⟩) (hY1.trans hY2) ⟨_, _, _, rfl, Rows.nil _ _ _, BlkB.nil, .inr (nil_row _), Rows.nil _ _ _, BlkB.nil⟩ hlk.symm hz' hbz2 hkz h6
    refine ret_anyM (.inr rfl) Tryz.ntmps18 rfl f1 ?_
    intro Z hkZ hsZ
    exact f2 Z hkZ hsZ
  ·have hlk : lookL o R q t = r := by
    unfold lookL
    rw [if_neg (by rw [hu]; decide), hgo]
   have hDlt : w3.heap.size < v1.heap.size := (Array.getElem?_eq_some_iff.1 hDv).1
   repeat refine c_r ?_
   refine ret_anyM (.inr rfl) Tryz.ntmps18 rfl hDv ?_
   intro Z hkZ hsZ
   refine ⟨_, res_agg (x := ⟨w.heap.size + 1 + 1, 0, Option.none⟩) (k := 5) ((vq1 h6)) rfl rfl (sv_cells ((hkZ.block _ (by have := hE3.size; omega) (by omega)).trans hbv) hres.cells.1.symm) res_nil, Keep.to_ext hEv rfl (fun b hb => by omega) hkZ, _, rfl, ?_⟩
   rw [hlk]
   exact (hres.keep hkZ (fun b hb _ => by omega)).mono (by omega)
end Go.Proofs.YtopbbjdembnfdaaGreat

namespace Go.Proofs.YtopbbjdembnfdaaGreat
open Go
set_option maxRecDepth 10000

structure HI (w0 : World) (B : Nat) (A : World) (gv : Value) (G : List GlX) : Prop where
 own : Owns 2 glC B A 143 gv G
 row : ∀ x ∈ G, Row w0 x.2.1 (x.1.1.map vs) ∧ Rows 5 (DatAt w0) A x.2.2 x.1.2 ∧ BlkB B A x.2.2 ∧ ∀ a n c, x.2.2 = .slice (some a) n c → some a.block ≠ gv.ownBlock
 nm : ∀ x ∈ G, NmG x.1.1
theorem HI.ext {w0 A A' : World} {B : Nat} {gv : Value} {G : List GlX} (h : HI w0 B A gv G) (hE : Ext A A') : HI w0 B A' gv G :=
 ⟨h.own.ext hE, fun x hx => by
  obtain ⟨h1, h2, h3, h4⟩ := h.row x hx
  exact ⟨h1, h2.ext hE, h3.ext hE.size, h4⟩, h.nm⟩
end Go.Proofs.YtopbbjdembnfdaaGreat

namespace Go.Proofs.YtopbbjdembnfdaaGreat
open Go
set_option maxRecDepth 10000

def LeadR (R : List RecL) : Prop := ∀ r ∈ R, (r.dat.ty = 2 ∨ r.dat.ty = 5 ∨ r.dat.ty = 39) → r.dat.names ≠ []
end Go.Proofs.YtopbbjdembnfdaaGreat

namespace Go.Proofs.YtopbbjdembnfdaaGreat
open Go
set_option maxRecDepth 10000

structure ResN (w0 wn : World) (B : Nat) (w : World) (cs : List Value) (r : ResL) : Prop where
 ex : ∃ dv nv gv, cs = [vi r.kind, dv, nv, .bool r.wild, gv] ∧ Rows 5 (DatAt w0) w dv r.data ∧ BlkB B w dv ∧ ((Row w nv (r.name.map vs) ∧ BlkB B w nv) ∨ Row wn nv (r.name.map vs)) ∧ Rows 2 (GlB w0 B w) w gv r.glue ∧ BlkB B w gv
theorem ResB.n {w0 wn w : World} {B : Nat} {cs : List Value} {r : ResL} (h : ResB w0 B w cs r) (hE : Ext w0 wn) : ResN w0 wn B w cs r := by
 obtain ⟨dv, nv, gv, e, h1, h2, h3, h4, h5⟩ := h.ex
 exact ⟨dv, nv, gv, e, h1, h2, h3.imp id (fun h => h.ext hE), h4, h5⟩
theorem ResN.keep {w0 wn w x : World} {B : Nat} {cs : List Value} {r : ResL} (h : ResN w0 wn B w cs r) {S : Nat → Prop} (hk : Keep S w x) (hS : ∀ b, B ≤ b → b < w.heap.size → ¬ S b) : ResN w0 wn B x cs r := by
 obtain ⟨dv, nv, gv, e, h1, h2, h3, h4, h5⟩ := h.ex
 refine ⟨dv, nv, gv, e, h1.keep hk h2 hS, h2.ext hk.size, ?_, (h4.keep hk h5 hS).to fun cs y hy => ?_, h5.ext hk.size⟩
 ·rcases h3 with ⟨h3, h6⟩ | h3
  ·exact .inl ⟨h3.blocks fun a n c hv => hk.block _ (h6 a n c hv).2 (hS _ (h6 a n c hv).1 (h6 a n c hv).2), h6.ext hk.size⟩
  ·exact .inr h3
 ·obtain ⟨hv, dv, e, g1, g2, g3⟩ := hy
  exact ⟨hv, dv, e, g1, g2.keep hk g3 hS, g3.ext hk.size⟩
theorem ResN.at {w0 wn w : World} {B : Nat} {cs : List Value} {r : ResL} (h : ResN w0 wn B w cs r) (hE : Ext wn w) : ResAt w0 w cs r := by
 obtain ⟨dv, nv, gv, e, h1, h2, h3, h4, h5⟩ := h.ex
 refine ⟨dv, nv, gv, e, h1, ?_, h4.to fun cs y hy => ?_⟩
 ·rcases h3 with ⟨h3, _⟩ | h3
  ·exact h3
  ·exact h3.ext hE
 ·obtain ⟨hv, dv, e, g1, g2, _⟩ := hy
  exact ⟨hv, dv, e, g1, g2⟩
theorem ResN.mono {w0 wn w : World} {B B' : Nat} {cs : List Value} {r : ResL} (h : ResN w0 wn B w cs r) (hB : B' ≤ B) : ResN w0 wn B' w cs r := by
 obtain ⟨dv, nv, gv, e, h1, h2, h3, h4, h5⟩ := h.ex
 refine ⟨dv, nv, gv, e, h1, h2.mono hB, h3.imp (fun h => ⟨h.1, h.2.mono hB⟩) id, h4.to fun cs y hy => ?_, h5.mono hB⟩
 obtain ⟨hv, dv, e, g1, g2, g3⟩ := hy
 exact ⟨hv, dv, e, g1, g2, g3.mono hB⟩

end Go.Proofs.YtopbbjdembnfdaaGreat

namespace Go.Proofs.YtopbbjdembnfdaaGreat
open Go
set_option maxRecDepth 10000

theorem ZNew_ok {w0 w : World} (hE0 : Ext w0 w) {ov lv : Value} {o : Nm} {R : List RecL} (ho : Row w ov (o.map vs)) (hl : Rows 7 (RecAt w0) w lv R) (hok : ∀ r ∈ R, RecOk r) (hlen : R.length ≤ 1000000000) :
  Fn Tryz.prog 19 #[ov, lv] w (fun v w' => Ext w w' ∧ ∃ cv, v = .agg #[ov, cv] ∧ Rows 7 (RecAt w0) w' cv (canonL R)) := by
 obtain ⟨ao, co, hov, _⟩ := id ho
 obtain ⟨no, hno⟩ : ∃ no, (o.map vs).length = no := ⟨_, rfl⟩
 rw [hno] at hov
 refine enter Tryz.func19 Tryz.ntmps19 rfl rfl ?_
 repeat refine c_r ?_
 refine rg0 ?_
 repeat refine c_r ?_
 refine W_alloc1 ?_
 intro w1 hE1 hs1 hA
 refine rq ?_; intro gd K hgd hK
 try simp (disch := first | omega | assumption | rfl) only [↓reduceIte, go_sem, Nat.reduceLT, Nat.reduceEqDiff, Nat.reduceSub]
 refine Fn.mono (Canon_ok w0 w1 (hE0.trans hE1) (hl.ext hE1) hok hlen) ?_
 rintro cv w2 ⟨hcv, hE2, hcb⟩
 obtain ⟨ac, cc, hcve, _⟩ := hcv.open
 try simp (disch := first | omega | assumption | rfl) only [↓reduceIte, go_sem, Nat.reduceLT, Nat.reduceEqDiff, Nat.reduceSub]
 refine ⟨by kernel_rfl, ?_⟩
 rw [hov, hcve, show bdV Tryz.prog 34 [(0, .slice ao no co), (1, .slice ac (canonL R).length cc)] = some (.agg #[.slice ao no co, .slice ac (canonL R).length cc]) from by kernel_rfl]
 try simp (disch := first | omega | assumption | rfl) only [↓reduceIte, go_sem, Nat.reduceLT, Nat.reduceEqDiff, Nat.reduceSub]
 refine sv_all (P := Tryz.prog) (t := 34) (l := [.slice ao no co, .slice ac (canonL R).length cc]) (Ext.at hE2 hA) rfl (fun v h => by simp at h; rcases h with rfl | rfl <;> rfl) rfl rfl ?_
 intro z hz' hbz hkz
 try simp (disch := first | omega | assumption | rfl) only [↓reduceIte, go_sem, Nat.reduceLT, Nat.reduceEqDiff, Nat.reduceSub]
 refine hK _ _ ?_; clear hK hgd; clear K; try clear gd
 repeat refine c_r ?_
 refine ret_any (.inr rfl) Tryz.ntmps19 rfl (res_agg (x := ⟨w.heap.size, 0, Option.none⟩) (k := 2) (vq0) rfl rfl (sv_cells hbz rfl) res_nil) ?_
 refine ⟨Keep.to_ext (hE1.trans hE2) rfl (fun b hb => by omega) hkz, .slice ac (canonL R).length cc, by rw [hov]; rfl, ?_⟩
 rw [← hcve]
 exact hcv.keep hkz hcb (fun b hb _ => by omega)
end Go.Proofs.YtopbbjdembnfdaaGreat

namespace Go.Proofs.YtopbbjdembnfdaaGreat
open Go
set_option maxRecDepth 10000

def goodN (n : Nm) : Bool := few n && decide (checkN n = 0)
theorem checkN_labels {n : Nm} (h : checkN n = 0) : ∀ l ∈ n, l ≠ [] ∧ l.length ≤ 63 := by
 intro l hl
 unfold checkN at h
 cases hf : n.find? (fun l => decide (errL l ≠ 0)) with
 | some x =>
  rw [hf] at h
  have := List.find?_some hf
  simp only [decide_eq_true_eq] at this
  exact absurd h this
 | none =>
  have := List.find?_eq_none.1 hf l hl
  simp only [decide_eq_true_eq, Decidable.not_not] at this
  unfold errL at this
  split at this
  ·cases this
  ·rename_i h0
   refine ⟨h0, ?_⟩
   split at this
   ·cases this
   ·omega
theorem sum_ge : ∀ n : Nm, n.length ≤ (n.map fun l => 1 + l.length).sum
 | [] => Nat.zero_le _
 | a :: n => by
  have ih := sum_ge n
  rw [List.map_cons, List.sum_cons]
  have e : (a :: n).length = n.length + 1 := rfl
  omega
theorem checkN_len {n : Nm} (h : checkN n = 0) : n.length ≤ 255 := by
 have hl := checkN_labels h
 unfold checkN at h
 split at h
 ·rename_i x hf
  have := List.find?_some hf
  simp only [decide_eq_true_eq] at this
  exact absurd h this
 ·split at h
  ·cases h
  ·rename_i h2
   unfold lenN at h2
   have := sum_ge n
   omega
theorem checkN_g {n : Nm} (h : checkN n = 0) : NmG n :=
 ⟨fun l hl => (checkN_labels h l hl).1, fun l hl => by have := (checkN_labels h l hl).2; omega, by have := checkN_len h; omega⟩
theorem goodN_g {n : Nm} (h : goodN n = true) : NmG n := by
 unfold goodN at h
 simp only [Bool.and_eq_true, decide_eq_true_eq] at h
 exact checkN_g h.2

theorem NGood_ok (w : World) (a : Value) (xs : Nm) (ha : Row w a (xs.map vs)) :
  Fn Tryz.prog 17 #[a] w (fun v w' => v = .bool (goodN xs) ∧ Ext w w') := by
 refine enter Tryz.func17 Tryz.ntmps17 rfl rfl ?_
 repeat refine c_r ?_
 refine rg0 ?_
 repeat refine c_r ?_
 cases hf : few xs with
 | true =>
  refine rq ?_; intro gd K hgd hK
  have hg2 : ∀ n σ b, wantV gd n σ (some (2, b)) = boolIs (ev n σ (.tmp 5)) b := (fun n σ b => by rw [wantV_some, show gd 2 = some 5 from (by rw [hgd]; rfl)]; rfl)
  try simp (disch := first | omega | assumption | rfl) only [↓reduceIte, go_sem, Nat.reduceLT, Nat.reduceEqDiff, Nat.reduceSub]
  refine Fn.mono (Few_ok w a xs ha) ?_
  rintro _ w1 ⟨rfl, hE1⟩
  rw [hf]
  try simp (disch := first | omega | assumption | rfl) only [↓reduceIte, go_sem, Nat.reduceLT, Nat.reduceEqDiff, Nat.reduceSub, ↓hg2]
  refine Fn.mono (RCheckName_ok w1 a xs (ha.ext hE1) (fun l hl => by
   have := few_lb hf l hl
   simp only [few, Bool.and_eq_true, List.all_eq_true, decide_eq_true_eq] at hf
   have := hf.2 l hl
   omega) (by have := few_len hf; omega)) ?_
  rintro _ w2 ⟨rfl, hE2⟩
  try simp (disch := first | omega | assumption | rfl) only [↓reduceIte, go_sem, Nat.reduceLT, Nat.reduceEqDiff, Nat.reduceSub, ↓hg2]
  refine hK _ _ ?_; clear hK hgd; clear K; try clear gd
  repeat refine c_r ?_
  refine rt0 Tryz.ntmps17 ?_
  refine ⟨?_, hE1.trans hE2⟩
  unfold goodN
  rw [hf, Bool.true_and]
 | false =>
  refine rq ?_; intro gd K hgd hK
  have hg2 : ∀ n σ b, wantV gd n σ (some (2, b)) = boolIs (ev n σ (.tmp 5)) b := (fun n σ b => by rw [wantV_some, show gd 2 = some 5 from (by rw [hgd]; rfl)]; rfl)
  try simp (disch := first | omega | assumption | rfl) only [↓reduceIte, go_sem, Nat.reduceLT, Nat.reduceEqDiff, Nat.reduceSub]
  refine Fn.mono (Few_ok w a xs ha) ?_
  rintro _ w1 ⟨rfl, hE1⟩
  rw [hf]
  try simp (disch := first | omega | assumption | rfl) only [↓reduceIte, go_sem, Nat.reduceLT, Nat.reduceEqDiff, Nat.reduceSub, ↓hg2]
  refine hK _ _ ?_; clear hK hgd; clear K; try clear gd
  repeat refine c_r ?_
  refine rt0 Tryz.ntmps17 ?_
  refine ⟨?_, hE1⟩
  unfold goodN
  rw [hf, Bool.false_and]

theorem Counts_ok (w : World) (t : Int) :
  Fn Tryz.prog 208 #[vi t] w (fun v w' => w' = w ∧ ∃ a b c : Int, v = .tuple #[vi a, vi b, vi c] ∧ ((t = 2 ∨ t = 5 ∨ t = 39) → a = 1) ∧ (t = 15 → b = 1)) := by
 refine enter Tryz.func208 Tryz.ntmps208 rfl rfl ?_
 repeat refine c_r ?_
 refine rg0 ?_
 repeat refine c_r ?_
 refine rg0 ?_
 repeat refine c_r ?_
 refine rg0 ?_
 repeat refine c_r ?_
 refine wc0 ?_ ?_
 ·intro h1
  simp only [decide_eq_true_eq] at h1
  repeat (first | refine c_r ?_ | refine rg0 ?_)
  refine ret_any (.inr rfl) Tryz.ntmps208 rfl (res_tmp (vr0) (res_tmp (vr0) (res_tmp (vr0) res_nil))) ?_
  exact ⟨rfl, 0, 0, 4, rfl, by omega, by omega⟩
 intro h1
 simp only [decide_eq_false_iff_not] at h1
 repeat refine c_r ?_
 refine rg0 ?_
 repeat refine c_r ?_
 refine wc0 ?_ ?_
 ·intro h2
  simp only [decide_eq_true_eq] at h2
  repeat (first | refine c_r ?_ | refine rg0 ?_)
  refine ret_any (.inr rfl) Tryz.ntmps208 rfl (res_tmp (vr0) (res_tmp (vr0) (res_tmp (vr0) res_nil))) ?_
  exact ⟨rfl, 0, 0, 16, rfl, by omega, by omega⟩
 intro h2
 simp only [decide_eq_false_iff_not] at h2
 refine W_seq ?_
 refine W_mono (Q := fun e σ' ds' v' => e = .normal ∧ ds' = [] ∧ v' = w ∧ σ' 5 = vi t ∧ ∃ bb, σ' 10 = .bool bb ∧ bb = (decide (t = 2) || (decide (t = 5) || (decide (t = 12) || decide (t = 39))))) ?_ ?_
 ·refine W_seq ?_
  refine rg0 ?_
  refine thenQ_normal ?_
  refine wc0 ?_ ?_
  ·intro h
   repeat refine c_r ?_
   exact ⟨rfl, rfl, rfl, vq0, true, by simp only [↓reduceIte, go_sem, Nat.reduceLT, Nat.reduceEqDiff, Nat.reduceSub]; rw [h], by rw [h]; rfl⟩
  intro e1
  refine W_seq ?_
  refine rg0 ?_
  refine thenQ_normal ?_
  refine wc0 ?_ ?_
  ·intro h
   repeat refine c_r ?_
   exact ⟨rfl, rfl, rfl, vq0, true, by simp only [↓reduceIte, go_sem, Nat.reduceLT, Nat.reduceEqDiff, Nat.reduceSub]; rw [h], by rw [e1, h]; rfl⟩
  intro e2
  refine W_seq ?_
  refine rg0 ?_
  refine thenQ_normal ?_
  refine wc0 ?_ ?_
  ·intro h
   repeat refine c_r ?_
   exact ⟨rfl, rfl, rfl, vq0, true, by simp only [↓reduceIte, go_sem, Nat.reduceLT, Nat.reduceEqDiff, Nat.reduceSub]; rw [h], by rw [e1, e2, h]; rfl⟩
  intro e3
  refine rg0 ?_
  exact ⟨rfl, rfl, rfl, vq0, decide (t = 39), vr0, by rw [e1, e2, e3]; rfl⟩
 rintro _ σ1 _ v1 ⟨rfl, rfl, hv1, h5, bb, h10, hbb⟩
 rw [hv1]
 clear hv1 v1
 repeat refine c_r ?_
 refine W_cond (t := bb) ((vq1 h10)) ?_ ?_
 ·intro ht
  rw [ht] at hbb
  repeat (first | refine c_r ?_ | refine rg0 ?_)
  refine ret_any (.inr rfl) Tryz.ntmps208 rfl (res_tmp (vr0) (res_tmp (vr0) (res_tmp (vr0) res_nil))) ?_
  refine ⟨rfl, 1, 0, 0, rfl, fun _ => rfl, fun h => ?_⟩
  subst h
  cases hbb
 intro ht
 rw [ht] at hbb
 have hno : ¬ (t = 2 ∨ t = 5 ∨ t = 39) := by
  rintro (rfl | rfl | rfl) <;> cases hbb
 repeat refine c_r ?_
 refine rg1 h5 ?_
 repeat refine c_r ?_
 refine wc0 ?_ ?_
 ·intro h3
  repeat (first | refine c_r ?_ | refine rg0 ?_)
  refine ret_any (.inr rfl) Tryz.ntmps208 rfl (res_tmp (vr0) (res_tmp (vr0) (res_tmp (vr0) res_nil))) ?_
  exact ⟨rfl, 1, 1, 0, rfl, fun _ => rfl, fun _ => rfl⟩
 intro h3
 simp only [decide_eq_false_iff_not] at h3
 repeat refine c_r ?_
 refine rg1 h5 ?_
 repeat refine c_r ?_
 refine wc0 ?_ ?_
 ·intro h4
  repeat (first | refine c_r ?_ | refine rg0 ?_)
  refine ret_any (.inr rfl) Tryz.ntmps208 rfl (res_tmp (vr0) (res_tmp (vr0) (res_tmp (vr0) res_nil))) ?_
  exact ⟨rfl, 2, 5, 0, rfl, fun h => absurd h hno, fun h => absurd h h3⟩
 intro h4
 repeat refine c_r ?_
 refine rg1 h5 ?_
 repeat refine c_r ?_
 refine wc0 ?_ ?_
 ·intro h6
  repeat (first | refine c_r ?_ | refine rg0 ?_)
  refine ret_any (.inr rfl) Tryz.ntmps208 rfl (res_tmp (vr0) (res_tmp (vr0) (res_tmp (vr0) res_nil))) ?_
  exact ⟨rfl, 0, 0, 0, rfl, fun h => absurd h hno, fun h => absurd h h3⟩
 intro h6
 repeat (first | refine c_r ?_ | refine rg0 ?_)
 refine ret_any (.inr rfl) Tryz.ntmps208 rfl (res_tmp (vr0) (res_tmp (vr0) (res_tmp (vr0) res_nil))) ?_
 exact ⟨rfl, 0, 0, -1, rfl, fun h => absurd h hno, fun h => absurd h h3⟩
end Go.Proofs.YtopbbjdembnfdaaGreat
