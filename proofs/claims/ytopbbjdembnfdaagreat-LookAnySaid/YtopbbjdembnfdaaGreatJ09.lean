/-
  Texts of a proof, joined: Y4, F3, F4, Y5, F5, E11, E12.
  Conditions: none.
-/
import Derived.Test.YtopbbjdembnfdaaGreatJ08
import Derived.Test.YtopbbjdembnfdaaGreatJ06
import Derived.Test.YtopbbjdembnfdaaGreatJ07
set_option linter.unusedVariables false
set_option linter.unusedSimpArgs false
set_option linter.defProp false
set_option linter.unnecessarySimpa false
namespace Go.Proofs.YtopbbjdembnfdaaGreat
open Go

def clsK (o : Nm) (t : Int) (k : Key) : Bool := decide (k.2.1 = t) && decide (foldN k.1 = foldN o)
def dataK (G : List Key) (o : Nm) (t : Int) : List DatL := ((G.find? (clsK o t)).map (fun k => k.2.2)).getD []

theorem cls_is {k : Key} {c : RecL} (h : isK k c = true) (o : Nm) (t : Int) : clsK o t k = isL o t c := by
 unfold isK at h
 simp only [Bool.and_eq_true, decide_eq_true_eq] at h
 unfold clsK isL
 rw [h.1, h.2]
 rw [Bool.eq_iff_iff]
 simp only [Bool.and_eq_true, decide_eq_true_eq]
 exact ⟨fun h => ⟨h.1.symm, h.2.symm⟩, fun h => ⟨h.1.symm, h.2.symm⟩⟩
theorem cls_two {k : Key} {c : RecL} {o : Nm} {t : Int} (h : clsK o t k = true) (hc : isL o t c = true) : isK k c = true := by
 unfold clsK at h
 unfold isL at hc
 simp only [Bool.and_eq_true, decide_eq_true_eq] at h hc
 unfold isK
 simp only [Bool.and_eq_true, decide_eq_true_eq]
 exact ⟨h.2.trans hc.2, h.1.trans hc.1⟩
def apartK (a b : Key) : Prop := ¬ (foldN a.1 = foldN b.1 ∧ a.2.1 = b.2.1)
theorem step_data {G : List Key} {c : RecL} (hG : G.Pairwise apartK) (hnew : lastK G c = false → ∀ k ∈ G, isK k c = false) (o : Nm) (t : Int) :
  dataK (stepK G c) o t = dataK G o t ++ (if isL o t c then [c.dat] else []) := by
 rcases List.eq_nil_or_concat G with rfl | ⟨G', k, rfl⟩
 ·show dataK [newK c] o t = _
  unfold dataK
  have e : clsK o t (newK c) = isL o t c := cls_is (by unfold isK newK; simp) o t
  by_cases h : isL o t c = true
  ·rw [if_pos h]
   rw [List.find?_cons, e, h]; rfl
  ·rw [if_neg h]
   rw [List.find?_cons, e, Bool.eq_false_iff.2 h]; rfl
 rw [List.concat_eq_append] at hG hnew ⊢
 have hlk : lastK (G' ++ [k]) c = isK k c := by unfold lastK; simp
 rw [hlk] at hnew
 have hst : stepK (G' ++ [k]) c = if isK k c then G' ++ [addK k c] else G' ++ [k] ++ [newK c] := by unfold stepK; simp
 rw [hst]
 by_cases hk : isK k c = true
 ·rw [if_pos hk]
  have e1 := cls_is hk o t
  have e2 : clsK o t (addK k c) = isL o t c := by rw [← e1]; rfl
  unfold dataK
  rw [List.find?_append, List.find?_append]
  cases hf : G'.find? (clsK o t) with
  | some k0 =>
   have hno : ¬ isL o t c = true := fun hc => by
    have h0 : clsK o t k0 = true := List.find?_some hf
    have := (List.pairwise_append.1 hG).2.2 k0 (List.mem_of_find?_eq_some hf) k (List.mem_singleton.2 rfl)
    rw [← e1] at hc
    unfold clsK at h0 hc
    simp only [Bool.and_eq_true, decide_eq_true_eq] at h0 hc
    exact this ⟨h0.2.trans hc.2.symm, h0.1.trans hc.1.symm⟩
   rw [if_neg hno]; simp
  | none =>
   by_cases hc : isL o t c = true
   ·rw [if_pos hc]
    rw [List.find?_cons, List.find?_cons, e1, e2, hc]
    simp [addK]
   ·rw [if_neg hc]
    rw [List.find?_cons, List.find?_cons, e1, e2, Bool.eq_false_iff.2 hc]
    simp
 ·rw [if_neg hk]
  have hn := hnew (by simpa using hk)
  have e2 : clsK o t (newK c) = isL o t c := cls_is (by unfold isK newK; simp) o t
  unfold dataK
  rw [List.find?_append]
  cases hf : (G' ++ [k]).find? (clsK o t) with
  | some k0 =>
   have hno : ¬ isL o t c = true := fun hc => by
    have h0 : clsK o t k0 = true := List.find?_some hf
    have h1 := hn k0 (List.mem_of_find?_eq_some hf)
    rw [cls_two h0 hc] at h1
    cases h1
   rw [if_neg hno]; simp
  | none =>
   by_cases hc : isL o t c = true
   ·rw [if_pos hc]
    rw [List.find?_cons, e2, hc]
    simp [newK]
   ·rw [if_neg hc]
    rw [List.find?_cons, e2, Bool.eq_false_iff.2 hc]
    simp
theorem step_apart {G : List Key} {c : RecL} (hG : G.Pairwise apartK) (hnew : lastK G c = false → ∀ k ∈ G, isK k c = false) : (stepK G c).Pairwise apartK := by
 rcases List.eq_nil_or_concat G with rfl | ⟨G', k, rfl⟩
 ·exact List.pairwise_singleton _ _
 rw [List.concat_eq_append] at hG hnew ⊢
 have hlk : lastK (G' ++ [k]) c = isK k c := by unfold lastK; simp
 rw [hlk] at hnew
 have hst : stepK (G' ++ [k]) c = if isK k c then G' ++ [addK k c] else G' ++ [k] ++ [newK c] := by unfold stepK; simp
 rw [hst]
 by_cases hk : isK k c = true
 ·rw [if_pos hk]
  obtain ⟨h1, _, h3⟩ := List.pairwise_append.1 hG
  refine List.pairwise_append.2 ⟨h1, List.pairwise_singleton _ _, fun a ha b hb => ?_⟩
  rw [List.mem_singleton.1 hb]
  exact h3 a ha k (List.mem_singleton.2 rfl)
 ·rw [if_neg hk]
  have hn := hnew (by simpa using hk)
  refine List.pairwise_append.2 ⟨hG, List.pairwise_singleton _ _, fun a ha b hb => ?_⟩
  rw [List.mem_singleton.1 hb]
  rintro ⟨e1, e2⟩
  have := hn a ha
  unfold isK at this
  rw [show foldN a.1 = foldN c.owner from e1, show a.2.1 = c.dat.ty from e2] at this
  simp at this
theorem between {x y c : RecL} (h1 : cmpRec x y < 0) (h2 : cmpRec y c < 0) (ho : foldN x.owner = foldN c.owner) (ht : x.dat.ty = c.dat.ty) : foldN y.owner = foldN c.owner ∧ y.dat.ty = c.dat.ty := by
 have e : cmpF2 y.owner c.owner = - cmpF2 x.owner y.owner := by unfold cmpF2; rw [ho, ← cmpN_neg]
 have e2 : cmpI y.dat.ty c.dat.ty = - cmpI x.dat.ty y.dat.ty := by rw [ht]; unfold cmpI; (repeat' split) <;> omega
 simp only [cmpRec, orI] at h1 h2
 by_cases h0 : cmpF2 x.owner y.owner = 0
 ·have h0' : cmpF2 y.owner c.owner = 0 := by omega
  rw [if_pos h0] at h1
  rw [if_pos h0'] at h2
  have hf : foldN y.owner = foldN c.owner := cmpN_zero h0'
  by_cases hi : cmpI x.dat.ty y.dat.ty = 0
  ·have hi' : cmpI y.dat.ty c.dat.ty = 0 := by omega
   exact ⟨hf, cmpI_zero.1 hi'⟩
  ·rw [if_neg hi] at h1
   rw [if_neg (by omega)] at h2
   omega
 ·rw [if_neg h0] at h1
  rw [if_neg (by omega)] at h2
  omega

theorem snoc_ind {α : Type} {P : List α → Prop} (h0 : P []) (h1 : ∀ l c, P l → P (l ++ [c])) (l : List α) : P l := by
 have : ∀ l : List α, P l.reverse := fun l => by
  induction l with
  | nil => exact h0
  | cons a l ih => rw [List.reverse_cons]; exact h1 _ _ ih
 have h := this l.reverse
 rwa [List.reverse_reverse] at h
theorem isK_new (c : RecL) : isK (newK c) c = true := by unfold isK newK; simp
theorem setsK_snoc (l : List RecL) (c : RecL) : setsK (l ++ [c]) = stepK (setsK l) c := by
 unfold setsK
 rw [List.foldl_append]; rfl
theorem sets_inv (l : List RecL) : SortR l → (setsK l).Pairwise apartK ∧ (∀ k ∈ setsK l, ∃ r ∈ l, isK k r = true) ∧ (∀ y, l.getLast? = some y → lastK (setsK l) y = true) ∧ ∀ o t, dataK (setsK l) o t = (l.filter (isL o t)).map RecL.dat := by
 refine snoc_ind (P := fun l => SortR l → (setsK l).Pairwise apartK ∧ (∀ k ∈ setsK l, ∃ r ∈ l, isK k r = true) ∧ (∀ y, l.getLast? = some y → lastK (setsK l) y = true) ∧ ∀ o t, dataK (setsK l) o t = (l.filter (isL o t)).map RecL.dat) ?_ ?_ l
 ·intro _
  exact ⟨List.Pairwise.nil, fun k h => absurd h (by unfold setsK; simp), fun y h => (by cases h), fun o t => rfl⟩
 intro l c ih hs
 obtain ⟨s1, _, s3⟩ := List.pairwise_append.1 hs
 obtain ⟨i1, i2, i3, i4⟩ := ih s1
 have hnew : lastK (setsK l) c = false → ∀ k ∈ setsK l, isK k c = false := by
  intro hl k hk
  rw [← Bool.not_eq_true]
  intro hkc
  obtain ⟨r, hr, hkr⟩ := i2 k hk
  rcases List.eq_nil_or_concat l with rfl | ⟨l', y, rfl⟩
  ·cases hr
  rw [List.concat_eq_append] at *
  have hy := i3 y (by simp)
  unfold lastK at hl hy
  cases hg : (setsK (l' ++ [y])).getLast? with
  | none => rw [hg] at hy; cases hy
  | some k2 =>
   rw [hg] at hl hy
   have hl : isK k2 c = false := hl
   have hy : isK k2 y = true := hy
   have hyc : foldN y.owner = foldN c.owner ∧ y.dat.ty = c.dat.ty := by
    unfold isK at hkc hkr
    simp only [Bool.and_eq_true, decide_eq_true_eq] at hkc hkr
    have a1 : foldN r.owner = foldN c.owner := hkr.1.symm.trans hkc.1
    have a2 : r.dat.ty = c.dat.ty := hkr.2.symm.trans hkc.2
    rcases List.mem_append.1 hr with hr | hr
    ·exact between ((List.pairwise_append.1 s1).2.2 r hr y (List.mem_singleton.2 rfl)) (s3 y (by simp) c (List.mem_singleton.2 rfl)) a1 a2
    ·rw [List.mem_singleton.1 hr] at a1 a2
     exact ⟨a1, a2⟩
   unfold isK at hl hy
   rw [hyc.1, hyc.2] at hy
   rw [hy] at hl
   cases hl
 rw [setsK_snoc]
 refine ⟨step_apart i1 hnew, ?_, ?_, fun o t => ?_⟩
 ·intro k hk
  rcases List.eq_nil_or_concat (setsK l) with h0 | ⟨G', k2, h0⟩
  ·rw [h0] at hk
   rw [List.mem_singleton.1 hk]
   exact ⟨c, by simp, isK_new c⟩
  rw [List.concat_eq_append] at h0
  have hst : stepK (G' ++ [k2]) c = if isK k2 c then G' ++ [addK k2 c] else G' ++ [k2] ++ [newK c] := by unfold stepK; simp
  rw [h0, hst] at hk
  split at hk
  ·rename_i h
   rcases List.mem_append.1 hk with hk | hk
   ·obtain ⟨r, hr, h1⟩ := i2 k (by rw [h0]; exact List.mem_append_left _ hk)
    exact ⟨r, List.mem_append_left _ hr, h1⟩
   ·rw [List.mem_singleton.1 hk]
    exact ⟨c, by simp, h⟩
  ·rcases List.mem_append.1 hk with hk | hk
   ·obtain ⟨r, hr, h1⟩ := i2 k (by rw [h0]; exact hk)
    exact ⟨r, List.mem_append_left _ hr, h1⟩
   ·rw [List.mem_singleton.1 hk]
    exact ⟨c, by simp, isK_new c⟩
 ·intro y hy
  rw [List.getLast?_concat] at hy
  cases hy
  rcases List.eq_nil_or_concat (setsK l) with h0 | ⟨G', k2, h0⟩
  ·rw [h0]; exact isK_new c
  rw [List.concat_eq_append] at h0
  have hst : stepK (G' ++ [k2]) c = if isK k2 c then G' ++ [addK k2 c] else G' ++ [k2] ++ [newK c] := by unfold stepK; simp
  rw [h0, hst]
  unfold lastK
  split
  ·rename_i k3 h3
   split at h3
   ·rename_i h; simp at h3; rw [← h3]; exact h
   ·simp at h3; rw [← h3]; exact isK_new c
  ·rename_i h3
   split at h3 <;> simp at h3
 ·rw [step_data i1 hnew, i4, List.filter_append, List.map_append]
  congr 1
  by_cases h : isL o t c = true
  ·rw [if_pos h]; simp [h]
  ·rw [if_neg h]; simp [h]
theorem sets_data {R : List RecL} (h : SortR R) (o : Nm) (t : Int) : dataK (setsK (canonL R)) o t = datC R o t := by
 rw [canonL_id h, (sets_inv R h).2.2.2 o t]
 unfold datC
 rw [ofC_sorted h]
end Go.Proofs.YtopbbjdembnfdaaGreat

namespace Go.Proofs.YtopbbjdembnfdaaGreat
open Go
set_option maxRecDepth 10000

theorem dataK_at {G : List Key} {o : Nm} {t : Int} {i : Nat} (hi : i < G.length) (hlow : ∀ j (h : j < G.length), j < i → clsK o t G[j] = false) (h : clsK o t G[i] = true) : dataK G o t = G[i].2.2 := by
 have h1 : G.find? (clsK o t) = some G[i] := by
  rw [List.find?_eq_some_iff_append]
  refine ⟨h, G.take i, G.drop (i + 1), by simp, fun a ha => ?_⟩
  obtain ⟨j, hj, rfl⟩ := List.getElem_of_mem ha
  rw [List.getElem_take]
  simp at hj
  rw [hlow j (by omega) (by omega)]; rfl
 unfold dataK
 rw [h1]; rfl
theorem dataK_none {G : List Key} {o : Nm} {t : Int} (hlow : ∀ j (h : j < G.length), clsK o t G[j] = false) : dataK G o t = [] := by
 have h1 : G.find? (clsK o t) = Option.none := by
  rw [List.find?_eq_none]
  intro a ha
  obtain ⟨j, hj, rfl⟩ := List.getElem_of_mem ha
  rw [hlow j hj]; exact Bool.false_ne_true
 unfold dataK
 rw [h1]; rfl

theorem stepK_len (G : List Key) (c : RecL) : (stepK G c).length ≤ G.length + 1 := by
 rcases List.eq_nil_or_concat G with rfl | ⟨G', k, rfl⟩
 ·exact Nat.le_refl _
 rw [List.concat_eq_append]
 have hst : stepK (G' ++ [k]) c = if isK k c then G' ++ [addK k c] else G' ++ [k] ++ [newK c] := by unfold stepK; simp
 rw [hst]
 split <;> simp
theorem setsK_len (l : List RecL) : (setsK l).length ≤ l.length := by
 refine snoc_ind (P := fun l => (setsK l).length ≤ l.length) (Nat.le_refl _) (fun l c ih => ?_) l
 rw [setsK_snoc]
 have := stepK_len (setsK l) c
 simp; omega

set_option maxHeartbeats 4000000 in
theorem ROf_ok (w0 w : World) (hE0 : Ext w0 w) {v nv : Value} {R : List RecL} {n : Nm} {t : Int} (hR : Rows 7 (RecAt w0) w v R) (hn : Row w nv (n.map vs)) (hln : LB n) (hnl : n.length ≤ 1000000000000000) (hok : ∀ r ∈ R, RecOk r) (hlen : R.length ≤ 1000000000) :
  Fn Tryz.prog 139 #[v, nv, vi t] w (fun u w' => Ext w w' ∧ ∃ ow ty tl dv ok, u = .tuple #[.agg #[ow, vi ty, v32 tl, dv], .bool ok] ∧ one ow = true ∧ Rows 5 (DatAt w0) w' dv (dataK (setsK (canonL R)) n t) ∧ BlkB w.heap.size w' dv) := by
 refine enter Tryz.func139 Tryz.ntmps139 rfl rfl ?_
 repeat refine c_r ?_
 refine rg0 ?_
 repeat refine c_r ?_
 refine W_alloc1 ?_
 intro w1 hE1 hs1 hA
 refine rq ?_; intro gd K hgd hK
 try simp (disch := first | omega | assumption | rfl) only [↓reduceIte, go_sem, Nat.reduceLT, Nat.reduceEqDiff, Nat.reduceSub]
 refine Fn.mono (RSets_ok w0 w1 (hE0.trans hE1) (hR.ext hE1) hok hlen) ?_
 rintro sv w2 ⟨hE2, G, hGk, hSI⟩
 try simp (disch := first | omega | assumption | rfl) only [↓reduceIte, go_sem, Nat.reduceLT, Nat.reduceEqDiff, Nat.reduceSub]
 refine hK _ _ ?_; clear hK hgd; clear K; try clear gd
 have hE12 := hE1.trans hE2
 have hG1 : ∀ i (h : i < G.length) (h' : i < (setsK (canonL R)).length), (setsK (canonL R))[i] = G[i].key := fun i h h' => by
  have : (G.map SX.key)[i]'(by simpa using h) = (setsK (canonL R))[i] := by simp only [hGk]
  rw [← this]; simp
 have hGl : (setsK (canonL R)).length = G.length := by rw [← hGk]; simp
 have hGb : G.length ≤ 1000000000 := by
  have h1 := setsK_len (canonL R)
  have h2 := canonL_len R
  omega
 obtain ⟨aG, cG, rfl, hcG, hgG⟩ := hSI.own.rows.open
 repeat refine c_r ?_
 refine rg0 ?_
 repeat refine c_r ?_
 refine W_loop (fun m σ ds A => ds = [] ∧ ∃ (i : Nat), i + m = G.length ∧ σ 9 = vi i ∧ σ 8 = .slice aG G.length cG ∧ σ 1 = nv ∧ σ 2 = vi t ∧ σ 6 = .pointer (some ⟨w.heap.size, 0, Option.none⟩) ∧ Ext w2 A ∧ ∀ j (h : j < G.length), j < i → clsK n t G[j].key = false) G.length ?_ ?_
 ·exact ⟨rfl, 0, by omega, vr0, vq0, vq0, vq0, vq0, Keep.refl _ _, fun j h hj => absurd hj (by omega)⟩
 rintro m σ ds A ⟨rfl, i, him, h9, h8, h1, h2, h6, hEA, hlow⟩
 repeat refine c_r ?_
 refine rg2 h9 h8 ?_
 repeat refine c_r ?_
 refine wc0 ?_ ?_
 ·intro hlt
  simp only [decide_eq_true_eq] at hlt
  have hi : i < G.length := by omega
  have hi0 : (0 : Int) ≤ (i : Int) := by omega
  have hi1 : (i : Int) < (G.length : Int) := by omega
  have hi1' : (i : Int) + 1 = ((i + 1 : Nat) : Int) := by push_cast; rfl
  obtain ⟨cr, hcr, hRr⟩ := hgG i hi
  obtain ⟨s, hs⟩ : ∃ s, G[i] = s := ⟨_, rfl⟩
  have hsm : s ∈ G := hs ▸ List.getElem_mem hi
  rw [hs] at hRr
  rw [hRr.1] at hcr
  obtain ⟨r1, r2, r3, r4⟩ := hSI.row s hsm
  obtain ⟨n1, n2⟩ := hSI.nm s hsm
  obtain ⟨xG, rfl⟩ := Option.isSome_iff_exists.1 (cellsO_some hcr)
  obtain ⟨xi, hxi⟩ : ∃ xi, adr (some xG) (i * 4) = some xi := ⟨_, rfl⟩
  rw [hxi] at hcr
  have rc : ∀ {x}, Ext w2 x → cellsO x (some xi) 4 = some s.cells ∧ cellO x (some xi) = some s.ow ∧ cellO x (adr (some xi) 1) = some (vi s.key.2.1) := fun {x} hx => by
   have hcx := cellsO_ext hx hcr
   have e0 := cell_of_cells hcx (j := 0) rfl
   rw [adr_zero] at e0
   exact ⟨hcx, e0, cell_of_cells hcx (j := 1) rfl⟩
  obtain ⟨c4, c0, c1⟩ := rc hEA
  have hwA := hE0.trans (hE12.trans hEA)
  repeat refine c_r ?_
  refine W_mono (Q := fun e σ' ds' v' => e = .normal ∧ ds' = [] ∧ σ' 9 = vi i ∧ σ' 8 = .slice (some xG) G.length cG ∧ σ' 1 = nv ∧ σ' 2 = vi t ∧ σ' 6 = .pointer (some ⟨w.heap.size, 0, Option.none⟩) ∧ Ext A v' ∧ σ' 33 = .bool (clsK n t s.key)) ?_ ?_
  ·by_cases hty : s.key.2.1 = t
   ·refine rq ?_; intro gd K hgd hK
    have hg7 : ∀ n σ b, wantV gd n σ (some (7, b)) = boolIs (ev n σ (.tmp 25)) b := (fun n σ b => by rw [wantV_some, show gd 7 = some 25 from (by rw [hgd]; rfl)]; rfl)
    try simp (disch := first | omega | assumption | rfl) only [↓reduceIte, go_sem, Nat.reduceLT, Nat.reduceEqDiff, Nat.reduceSub, h9, h8, h1, h2, hi0, hi1, hxi, c0, c1, adr_zero, decide_eq_true hty, ↓hg7]
    refine Fn.mono (RSame_ok A _ _ _ _ (r1.ext hwA) (hn.ext (hE12.trans hEA)) n1 hln (by omega) (by omega)) ?_
    rintro _ x2 ⟨rfl, hx2⟩
    try simp (disch := first | omega | assumption | rfl) only [↓reduceIte, go_sem, Nat.reduceLT, Nat.reduceEqDiff, Nat.reduceSub]
    refine hK _ _ ?_; clear hK hgd; clear K; try clear gd
    refine ⟨rfl, rfl, (vq1 h9), (vq1 h8), (vq1 h1), (vq1 h2), (vq1 h6), hx2, ?_⟩
    unfold clsK
    rw [decide_eq_true hty, Bool.true_and]
    first | (simp only [↓reduceIte, go_sem, Nat.reduceLT, Nat.reduceEqDiff, Nat.reduceSub]; done) | (simp only [↓reduceIte, go_sem, Nat.reduceLT, Nat.reduceEqDiff, Nat.reduceSub]; rfl)
   ·refine rq ?_; intro gd K hgd hK
    have hg7 : ∀ n σ b, wantV gd n σ (some (7, b)) = boolIs (ev n σ (.tmp 25)) b := (fun n σ b => by rw [wantV_some, show gd 7 = some 25 from (by rw [hgd]; rfl)]; rfl)
    try simp (disch := first | omega | assumption | rfl) only [↓reduceIte, go_sem, Nat.reduceLT, Nat.reduceEqDiff, Nat.reduceSub, h9, h8, h1, h2, hi0, hi1, hxi, c0, c1, adr_zero, decide_eq_false hty, ↓hg7]
    refine hK _ _ ?_; clear hK hgd; clear K; try clear gd
    refine ⟨rfl, rfl, (vq1 h9), (vq1 h8), (vq1 h1), (vq1 h2), (vq1 h6), Keep.refl _ _, ?_⟩
    unfold clsK
    rw [decide_eq_false hty, Bool.false_and]
    first | (simp only [↓reduceIte, go_sem, Nat.reduceLT, Nat.reduceEqDiff, Nat.reduceSub]; done) | (simp only [↓reduceIte, go_sem, Nat.reduceLT, Nat.reduceEqDiff, Nat.reduceSub]; rfl)
  clear h9 h8 h1 h2 h6 c4 c0 c1
  rintro _ σ1 _ A1 ⟨rfl, rfl, h9, h8, h1, h2, h6, hA1, h33⟩
  have hEA1 := hEA.trans hA1
  repeat refine c_r ?_
  refine W_cond (t := clsK n t s.key) ((vq1 h33)) ?_ ?_
  ·intro ht
   obtain ⟨c4, c0, c1⟩ := rc hEA1
   repeat refine c_r ?_
   refine rq ?_; intro gd K hgd hK
   try simp (disch := first | omega | assumption | rfl) only [↓reduceIte, go_sem, Nat.reduceLT, Nat.reduceEqDiff, Nat.reduceSub, h9, h8, h6, hi0, hi1, hxi, c4]
   have hB := Ext.at ((hE2.trans hEA1)) hA
   obtain ⟨_, _, hsv, _⟩ := r2.open
   refine sv_all (P := Tryz.prog) (t := 222) (l := s.cells) hB rfl (fun v h => sx_shape.ones hRr v (by rw [hRr.1]; exact h)) rfl rfl ?_
   intro w4 hs5 hB5 hk5
   try simp (disch := first | omega | assumption | rfl) only [↓reduceIte, go_sem, Nat.reduceLT, Nat.reduceEqDiff, Nat.reduceSub]
   refine hK _ _ ?_; clear hK hgd; clear K; try clear gd
   repeat refine c_r ?_
   refine ret_any (.inr rfl) Tryz.ntmps139 rfl (res_agg ((vq1 h6)) rfl rfl (sv_cells hB5 rfl) (res_tmp (vr0) res_nil)) ?_
   have hkey : dataK (setsK (canonL R)) n t = s.key.2.2 := by
    have h1 := dataK_at (G := setsK (canonL R)) (o := n) (t := t) (i := i) (by omega) (fun j hj hji => by rw [hG1 j (by omega) hj]; exact hlow j (by omega) hji) (by rw [hG1 i hi (by omega), hs]; exact ht)
    rw [h1, hG1 i hi (by omega), hs]
   have e1 := hE1.size
   refine ⟨Keep.to_ext (hE12.trans hEA1) rfl (fun b hb => by omega) hk5, s.ow, s.key.2.1, s.ttl, s.dv, true, rfl, hRr.2.1, ?_, fun a n c hv => ?_⟩
   ·rw [hkey]
    exact (r2.ext hEA1).blocks fun a n c hv => hk5.block _ (((r3.ext hEA1.size) a n c hv).2) (by have := (r3 a n c hv).1; omega)
   ·have := (r3.ext hEA1.size) a n c hv
    omega
  ·intro ht
   repeat refine c_r ?_
   refine rg2 h9 hi1' ?_
   repeat refine c_r ?_
   refine ⟨m - 1, by omega, rfl, i + 1, by omega, vq0, (vq1 h8), (vq1 h1), (vq1 h2), (vq1 h6), hEA1, fun j hj hji => ?_⟩
   by_cases hj2 : j = i
   ·subst hj2; rw [hs]; exact ht
   ·exact hlow j hj (by omega)
 ·intro hge
  simp only [decide_eq_false_iff_not] at hge
  have hi : i = G.length := by omega
  repeat refine c_r ?_
  refine rq ?_; intro gd K hgd hK
  try simp (disch := first | omega | assumption | rfl) only [↓reduceIte, go_sem, Nat.reduceLT, Nat.reduceEqDiff, Nat.reduceSub, h6]
  refine ⟨by kernel_rfl, ?_⟩
  rw [show bdV Tryz.prog 222 [] = some (.agg #[.slice Option.none 0 0, vi 0, v32 0, .slice Option.none 0 0]) from by kernel_rfl]
  try simp (disch := first | omega | assumption | rfl) only [↓reduceIte, go_sem, Nat.reduceLT, Nat.reduceEqDiff, Nat.reduceSub, h6]
  have hB := Ext.at (hE2.trans hEA) hA
  refine sv_all (P := Tryz.prog) (t := 222) (l := [.slice Option.none 0 0, vi 0, v32 0, .slice Option.none 0 0]) hB rfl (fun v h => by simp at h; rcases h with rfl | rfl | rfl | rfl <;> rfl) rfl rfl ?_
  intro w4 hs5 hB5 hk5
  try simp (disch := first | omega | assumption | rfl) only [↓reduceIte, go_sem, Nat.reduceLT, Nat.reduceEqDiff, Nat.reduceSub]
  refine hK _ _ ?_; clear hK hgd; clear K; try clear gd
  repeat refine c_r ?_
  refine ret_any (.inr rfl) Tryz.ntmps139 rfl (res_agg ((vq1 h6)) rfl rfl (sv_cells hB5 rfl) (res_tmp (vr0) res_nil)) ?_
  have hkey : dataK (setsK (canonL R)) n t = [] := dataK_none (fun j hj => by rw [hG1 j (by omega) hj]; exact hlow j (by omega) (by omega))
  refine ⟨Keep.to_ext (hE12.trans hEA) rfl (fun b hb => by omega) hk5, .slice Option.none 0 0, 0, 0, .slice Option.none 0 0, false, rfl, rfl, ?_, BlkB.nil⟩
  rw [hkey]
  exact Rows.nil _ _ _
end Go.Proofs.YtopbbjdembnfdaaGreat

namespace Go.Proofs.YtopbbjdembnfdaaGreat
open Go
set_option maxRecDepth 10000

set_option maxHeartbeats 1000000 in
theorem RDatas_ok {w0 w : World} {ov lv nv : Value} {o n : Nm} {R : List RecL} {t : Int} (hz : ZnAt w0 w ov lv o R) (hs : SortR R) (hn : Row w nv (n.map vs)) (hln : LB n) (hnl : n.length ≤ 1000000000000000) :
  Fn Tryz.prog 69 #[.agg #[ov, lv], nv, vi t] w (fun v w' => Ext w w' ∧ Rows 5 (DatAt w0) w' v (datC R n t) ∧ BlkB w.heap.size w' v) := by
 obtain ⟨ao, co, hov, _⟩ := id hz.org
 obtain ⟨al, cl, hlv, _⟩ := hz.recs.open
 rw [hov, hlv]
 refine enter Tryz.func69 Tryz.ntmps69 rfl rfl ?_
 repeat refine c_r ?_
 refine rg0 ?_
 repeat refine c_r ?_
 rw [← hov, ← hlv]
 refine W_alloc1 ?_
 intro w1 hE1 hs1 hA
 have p1 : cellO w1 (some ⟨w.heap.size, 1, Option.none⟩) = some lv := cellO_at hA rfl
 have hz1 := hz.ext hE1
 refine rq ?_; intro gd K hgd hK
 try simp (disch := first | omega | assumption | rfl) only [↓reduceIte, go_sem, Nat.reduceLT, Nat.reduceEqDiff, Nat.reduceSub, p1, Nat.zero_add]
 refine Fn.mono (ROf_ok w0 w1 hz1.e0 hz1.recs (hn.ext hE1) hln hnl hz.ok hz.rl) ?_
 rintro _ w2 ⟨hE2, ow, ty, tl, dv, ok, rfl, how, hdv, hdb⟩
 rw [sets_data hs] at hdv
 try simp (disch := first | omega | assumption | rfl) only [↓reduceIte, go_sem, Nat.reduceLT, Nat.reduceEqDiff, Nat.reduceSub]
 have hB3 := new_block w2 (.cells #[.slice Option.none 0 0, vi 0, v32 0, .slice Option.none 0 0] 222 (0, 0))
 have hE4 := Ext.alloc w2 (.cells #[.slice Option.none 0 0, vi 0, v32 0, .slice Option.none 0 0] 222 (0, 0))
 have hs4 := new_size w2 (.cells #[.slice Option.none 0 0, vi 0, v32 0, .slice Option.none 0 0] 222 (0, 0))
 revert hB3 hE4 hs4
 generalize w2.alloc (.cells #[.slice Option.none 0 0, vi 0, v32 0, .slice Option.none 0 0] 222 (0, 0)) = w3
 intro hB3 hE4 hs4
 obtain ⟨ad, cd, hdv', hcd, _⟩ := hdv.open
 refine sv_all (P := Tryz.prog) (t := 222) (l := [ow, vi ty, v32 tl, dv]) hB3 rfl (fun v h => by
  simp at h
  rcases h with rfl | rfl | rfl | rfl
  ·exact how
  ·rfl
  ·rfl
  ·rw [hdv']; rfl) rfl rfl ?_
 intro w4 hs5 hB5 hk5
 try simp (disch := first | omega | assumption | rfl) only [↓reduceIte, go_sem, Nat.reduceLT, Nat.reduceEqDiff, Nat.reduceSub]
 refine hK _ _ ?_; clear hK hgd; clear K; try clear gd
 have hE5 : Ext w2 w4 := Keep.to_ext hE4 rfl (fun b hb => by omega) hk5
 have q3 : cellO w4 (some ⟨w2.heap.size, 3, Option.none⟩) = some dv := sv_get hB5 rfl
 repeat refine c_r ?_
 refine rg2 q3 Nat.zero_add ?_
 repeat refine c_r ?_
 refine rt0 Tryz.ntmps69 ?_
 exact ⟨(hE1.trans hE2).trans hE5, hdv.ext hE5, (hdb.ext hE5.size).mono hE1.size⟩

theorem RHas_ok {w0 w : World} {ov lv nv : Value} {o n : Nm} {R : List RecL} {t : Int} (hz : ZnAt w0 w ov lv o R) (hn : Row w nv (n.map vs)) (hln : LB n) (hnl : n.length ≤ 1000000000000000) :
  Fn Tryz.prog 68 #[.agg #[ov, lv], nv, vi t] w (fun v w' => v = .bool (hasL R n t) ∧ Ext w w') := by
 obtain ⟨ao, co, hov, _⟩ := id hz.org
 obtain ⟨al, cl, hlv, hcl, hgl⟩ := hz.recs.open
 rw [hov, hlv]
 refine enter Tryz.func68 Tryz.ntmps68 rfl rfl ?_
 repeat refine c_r ?_
 refine rg0 ?_
 repeat refine c_r ?_
 rw [← hov, ← hlv]
 refine W_alloc1 ?_
 intro w1 hE1 hs1 hA
 have p1 : cellO w1 (some ⟨w.heap.size, 1, Option.none⟩) = some lv := cellO_at hA rfl
 rw [hlv] at p1
 have hRlen := hz.rl
 refine rg0 ?_
 repeat refine c_r ?_
 refine W_loop (fun m σ ds A => ds = [] ∧ ∃ (i : Nat), i + m = R.length ∧ σ 7 = vi i ∧ σ 1 = nv ∧ σ 2 = vi t ∧ σ 3 = .pointer (some ⟨w.heap.size, 0, Option.none⟩) ∧ Ext w1 A ∧ ∀ j (h : j < R.length), j < i → isL n t R[j] = false) R.length ?_ ?_
 ·exact ⟨rfl, 0, by omega, vr0, vq0, vq0, vq0, Keep.refl _ _, fun j h hj => absurd hj (by omega)⟩
 rintro m σ ds A ⟨rfl, i, him, h7, h1, h2, h3, hEA, hlow⟩
 have p1A := cellO_ext hEA p1
 repeat refine c_r ?_
 refine rg4 h7 h3 p1A Nat.zero_add ?_
 repeat refine c_r ?_
 refine wc0 ?_ ?_
 ·intro hlt
  simp only [decide_eq_true_eq] at hlt
  have hi : i < R.length := by omega
  have hi0 : (0 : Int) ≤ (i : Int) := by omega
  have hi1 : (i : Int) < (R.length : Int) := by omega
  have hi1' : (i : Int) + 1 = ((i + 1 : Nat) : Int) := by push_cast; rfl
  obtain ⟨cr, hcr, hRr⟩ := hgl i hi
  obtain ⟨r, hr⟩ : ∃ r, R[i] = r := ⟨_, rfl⟩
  rw [hr] at hRr
  have hrok : RecOk r := hr ▸ hz.ok _ (List.getElem_mem hi)
  have hrl := hrok.len
  obtain ⟨ow, dsc, hcrE, o1, o2, g0, g1, g2, gd⟩ := hRr.cells
  obtain ⟨xR, rfl⟩ := Option.isSome_iff_exists.1 (cellsO_some hcr)
  obtain ⟨xi, hxi⟩ : ∃ xi, adr (some xR) (i * 7) = some xi := ⟨_, rfl⟩
  rw [hxi] at hcr
  obtain ⟨xd, hxd⟩ : ∃ xd, adr (some xi) 2 = some xd := ⟨_, rfl⟩
  have hwA := hE1.trans hEA
  have hcx := cellsO_ext hwA hcr
  have e0 := cell_of_cells hcx g0
  have e2 := cell_of_cells hcx g2
  rw [adr_zero] at e0
  rw [hxd] at e2
  repeat refine c_r ?_
  refine W_mono (Q := fun e σ' ds' v' => e = .normal ∧ ds' = [] ∧ σ' 7 = vi i ∧ σ' 1 = nv ∧ σ' 2 = vi t ∧ σ' 3 = .pointer (some ⟨w.heap.size, 0, Option.none⟩) ∧ Ext A v' ∧ σ' 33 = .bool (isL n t r)) ?_ ?_
  ·by_cases hty : r.dat.ty = t
   ·refine rq ?_; intro gd K hgd hK
    have hg9 : ∀ n σ b, wantV gd n σ (some (9, b)) = boolIs (ev n σ (.tmp 24)) b := (fun n σ b => by rw [wantV_some, show gd 9 = some 24 from (by rw [hgd]; rfl)]; rfl)
    try simp (disch := first | omega | assumption | rfl) only [↓reduceIte, go_sem, Nat.reduceLT, Nat.reduceEqDiff, Nat.reduceSub, h7, h1, h2, h3, p1A, Nat.zero_add, hi0, hi1, hxi, hxd, e0, e2, adr_zero, decide_eq_true hty, ↓hg9]
    refine Fn.mono (RSame_ok A _ _ _ _ (o1.ext (hz.e0.trans hwA)) (hn.ext hwA) hrok.lb hln (by omega) (by omega)) ?_
    rintro _ x2 ⟨rfl, hx2⟩
    try simp (disch := first | omega | assumption | rfl) only [↓reduceIte, go_sem, Nat.reduceLT, Nat.reduceEqDiff, Nat.reduceSub]
    refine hK _ _ ?_; clear hK hgd; clear K; try clear gd
    refine ⟨rfl, rfl, (vq1 h7), (vq1 h1), (vq1 h2), (vq1 h3), hx2, ?_⟩
    rw [show isL n t r = decide (foldN r.owner = foldN n) from by unfold isL; rw [decide_eq_true hty.symm, Bool.true_and]; exact decide_eq_decide.2 ⟨Eq.symm, Eq.symm⟩]
    first | (simp only [↓reduceIte, go_sem, Nat.reduceLT, Nat.reduceEqDiff, Nat.reduceSub]; done) | (simp only [↓reduceIte, go_sem, Nat.reduceLT, Nat.reduceEqDiff, Nat.reduceSub]; rfl)
   ·refine rq ?_; intro gd K hgd hK
    have hg9 : ∀ n σ b, wantV gd n σ (some (9, b)) = boolIs (ev n σ (.tmp 24)) b := (fun n σ b => by rw [wantV_some, show gd 9 = some 24 from (by rw [hgd]; rfl)]; rfl)
    try simp (disch := first | omega | assumption | rfl) only [↓reduceIte, go_sem, Nat.reduceLT, Nat.reduceEqDiff, Nat.reduceSub, h7, h1, h2, h3, p1A, Nat.zero_add, hi0, hi1, hxi, hxd, e0, e2, adr_zero, decide_eq_false hty, ↓hg9]
    refine hK _ _ ?_; clear hK hgd; clear K; try clear gd
    refine ⟨rfl, rfl, (vq1 h7), (vq1 h1), (vq1 h2), (vq1 h3), Keep.refl _ _, ?_⟩
    rw [show isL n t r = false from by unfold isL; rw [decide_eq_false (fun h => hty h.symm), Bool.false_and]]
    first | (simp only [↓reduceIte, go_sem, Nat.reduceLT, Nat.reduceEqDiff, Nat.reduceSub]; done) | (simp only [↓reduceIte, go_sem, Nat.reduceLT, Nat.reduceEqDiff, Nat.reduceSub]; rfl)
  clear h7 h1 h2 h3
  rintro _ σ1 _ A1 ⟨rfl, rfl, h7, h1, h2, h3, hA1, h33⟩
  repeat refine c_r ?_
  refine W_cond (t := isL n t r) ((vq1 h33)) ?_ ?_
  ·intro ht
   repeat (first | refine c_r ?_ | refine rg0 ?_)
   refine rt0 Tryz.ntmps68 ?_
   refine ⟨?_, hwA.trans hA1⟩
   rw [show hasL R n t = true from List.any_eq_true.2 ⟨r, hr ▸ List.getElem_mem hi, ht⟩]
  ·intro ht
   repeat refine c_r ?_
   refine rg2 h7 hi1' ?_
   repeat refine c_r ?_
   refine ⟨m - 1, by omega, rfl, i + 1, by omega, vq0, (vq1 h1), (vq1 h2), (vq1 h3), hEA.trans hA1, fun j hj hji => ?_⟩
   by_cases hj2 : j = i
   ·subst hj2; rw [hr]; exact ht
   ·exact hlow j hj (by omega)
 ·intro hge
  simp only [decide_eq_false_iff_not] at hge
  repeat (first | refine c_r ?_ | refine rg0 ?_)
  refine rt0 Tryz.ntmps68 ?_
  refine ⟨?_, hE1.trans hEA⟩
  have : hasL R n t = false := by
   unfold hasL
   rw [List.any_eq_false]
   intro x hx
   obtain ⟨j, hj, rfl⟩ := List.getElem_of_mem hx
   rw [hlow j hj (by omega)]; exact Bool.false_ne_true
  rw [this]

theorem RExists_ok {w0 w : World} {ov lv nv : Value} {o n : Nm} {R : List RecL} (hz : ZnAt w0 w ov lv o R) (hn : Row w nv (n.map vs)) (hln : LB n) (hnl : n.length ≤ 1000000000000000) :
  Fn Tryz.prog 72 #[.agg #[ov, lv], nv] w (fun v w' => v = .bool (existsL o R n) ∧ Ext w w') := by
 obtain ⟨ao, co, hov, _⟩ := id hz.org
 obtain ⟨al, cl, hlv, hcl, hgl⟩ := hz.recs.open
 have hol := hz.ol
 rw [hov, hlv]
 refine enter Tryz.func72 Tryz.ntmps72 rfl rfl ?_
 repeat refine c_r ?_
 refine rg0 ?_
 repeat refine c_r ?_
 rw [← hov, ← hlv]
 refine W_alloc1 ?_
 intro w1 hE1 hs1 hA
 have p0 : cellO w1 (some ⟨w.heap.size, 0, Option.none⟩) = some ov := cellO_at hA rfl
 have p1 : cellO w1 (some ⟨w.heap.size, 1, Option.none⟩) = some lv := cellO_at hA rfl
 rw [hlv] at p1
 have hRlen := hz.rl
 refine rq ?_; intro gd K hgd hK
 try simp (disch := first | omega | assumption | rfl) only [↓reduceIte, go_sem, Nat.reduceLT, Nat.reduceEqDiff, Nat.reduceSub, p0, Nat.add_zero]
 refine Fn.mono (RUnder_ok w1 _ _ _ _ (hn.ext hE1) (hz.org.ext hE1) hln hz.lb (by omega) (by omega)) ?_
 rintro _ w2 ⟨rfl, hE2⟩
 try simp (disch := first | omega | assumption | rfl) only [↓reduceIte, go_sem, Nat.reduceLT, Nat.reduceEqDiff, Nat.reduceSub]
 refine hK _ _ ?_; clear hK hgd; clear K; try clear gd
 have hE12 := hE1.trans hE2
 have p02 := cellO_ext hE2 p0
 by_cases hu : under n o = true
 rotate_left
 ·have hu' : under n o = false := by simpa using hu
  rw [hu']
  repeat refine c_r ?_
  refine W_cond (t := true) (vr0) ?_ (fun h => by cases h)
  intro _
  repeat (first | refine c_r ?_ | refine rg0 ?_)
  refine rt0 Tryz.ntmps72 ?_
  refine ⟨?_, hE12⟩
  unfold existsL
  rw [hu', Bool.false_and]
 rw [hu]
 repeat refine c_r ?_
 refine W_cond (t := false) (vr0) (fun h => by cases h) ?_
 intro _
 repeat refine c_r ?_
 refine rq ?_; intro gd K hgd hK
 try simp (disch := first | omega | assumption | rfl) only [↓reduceIte, go_sem, Nat.reduceLT, Nat.reduceEqDiff, Nat.reduceSub, p02, Nat.add_zero]
 refine Fn.mono (RSame_ok w2 _ _ _ _ (hn.ext hE12) (hz.org.ext hE12) hln hz.lb (by omega) (by omega)) ?_
 rintro _ w3 ⟨rfl, hE3⟩
 try simp (disch := first | omega | assumption | rfl) only [↓reduceIte, go_sem, Nat.reduceLT, Nat.reduceEqDiff, Nat.reduceSub]
 refine hK _ _ ?_; clear hK hgd; clear K; try clear gd
 have hE13 := hE12.trans hE3
 have hle := under_len hu
 have hsm : decide (foldN n = foldN o) = decide (n.length = o.length) := by
  refine decide_eq_decide.2 ⟨fun h => ?_, fun h => ?_⟩
  ·have := congrArg List.length h
   unfold foldN at this
   simpa using this
  ·unfold under at hu
   simp only [Bool.and_eq_true, decide_eq_true_eq] at hu
   have := hu.2
   rw [h, Nat.sub_self, List.drop_zero] at this
   exact this
 rw [hsm]
 repeat refine c_r ?_
 refine W_cond (t := decide (n.length = o.length)) (vr0) ?_ ?_
 ·intro ht
  repeat (first | refine c_r ?_ | refine rg0 ?_)
  refine rt0 Tryz.ntmps72 ?_
  refine ⟨?_, hE13⟩
  unfold existsL
  rw [hu, ht, Bool.true_or, Bool.true_and]
 intro hne
 have hex : existsL o R n = R.any fun r => under r.owner n := by
  unfold existsL
  rw [hu, hne, Bool.false_or, Bool.true_and]
 rw [hex]
 repeat refine c_r ?_
 refine rg0 ?_
 repeat refine c_r ?_
 refine W_loop (fun m σ ds A => ds = [] ∧ ∃ (i : Nat), i + m = R.length ∧ σ 5 = vi i ∧ σ 1 = nv ∧ σ 2 = .pointer (some ⟨w.heap.size, 0, Option.none⟩) ∧ Ext w3 A ∧ ∀ j (h : j < R.length), j < i → under R[j].owner n = false) R.length ?_ ?_
 ·exact ⟨rfl, 0, by omega, vr0, vq0, vq0, Keep.refl _ _, fun j h hj => absurd hj (by omega)⟩
 rintro m σ ds A ⟨rfl, i, him, h5, h1, h2, hEA, hlow⟩
 have p1A := cellO_ext ((hE2.trans hE3).trans hEA) p1
 repeat refine c_r ?_
 refine rg4 h5 h2 p1A Nat.zero_add ?_
 repeat refine c_r ?_
 refine wc0 ?_ ?_
 ·intro hlt
  simp only [decide_eq_true_eq] at hlt
  have hi : i < R.length := by omega
  have hi0 : (0 : Int) ≤ (i : Int) := by omega
  have hi1 : (i : Int) < (R.length : Int) := by omega
  have hi1' : (i : Int) + 1 = ((i + 1 : Nat) : Int) := by push_cast; rfl
  obtain ⟨cr, hcr, hRr⟩ := hgl i hi
  obtain ⟨r, hr⟩ : ∃ r, R[i] = r := ⟨_, rfl⟩
  rw [hr] at hRr
  have hrok : RecOk r := hr ▸ hz.ok _ (List.getElem_mem hi)
  have hrl := hrok.len
  obtain ⟨ow, dsc, hcrE, o1, o2, g0, g1, g2, gd⟩ := hRr.cells
  obtain ⟨xR, rfl⟩ := Option.isSome_iff_exists.1 (cellsO_some hcr)
  obtain ⟨xi, hxi⟩ : ∃ xi, adr (some xR) (i * 7) = some xi := ⟨_, rfl⟩
  rw [hxi] at hcr
  have hwA := hE13.trans hEA
  have hcx := cellsO_ext hwA hcr
  have e0 := cell_of_cells hcx g0
  rw [adr_zero] at e0
  repeat refine c_r ?_
  refine rq ?_; intro gd K hgd hK
  try simp (disch := first | omega | assumption | rfl) only [↓reduceIte, go_sem, Nat.reduceLT, Nat.reduceEqDiff, Nat.reduceSub, h5, h1, h2, p1A, Nat.zero_add, hi0, hi1, hxi, e0, adr_zero]
  refine Fn.mono (RUnder_ok A _ _ _ _ (o1.ext (hz.e0.trans hwA)) (hn.ext hwA) hrok.lb hln (by omega) (by omega)) ?_
  rintro _ x2 ⟨rfl, hx2⟩
  try simp (disch := first | omega | assumption | rfl) only [↓reduceIte, go_sem, Nat.reduceLT, Nat.reduceEqDiff, Nat.reduceSub]
  refine hK _ _ ?_; clear hK hgd; clear K; try clear gd
  repeat refine c_r ?_
  refine W_cond (t := under r.owner n) (vr0) ?_ ?_
  ·intro ht
   repeat (first | refine c_r ?_ | refine rg0 ?_)
   refine rt0 Tryz.ntmps72 ?_
   refine ⟨?_, hwA.trans hx2⟩
   rw [show (R.any fun r => under r.owner n) = true from List.any_eq_true.2 ⟨r, hr ▸ List.getElem_mem hi, ht⟩]
  ·intro ht
   repeat refine c_r ?_
   refine rg2 h5 hi1' ?_
   repeat refine c_r ?_
   refine ⟨m - 1, by omega, rfl, i + 1, by omega, vq0, (vq1 h1), (vq1 h2), hEA.trans hx2, fun j hj hji => ?_⟩
   by_cases hj2 : j = i
   ·subst hj2; rw [hr]; exact ht
   ·exact hlow j hj (by omega)
 ·intro hge
  simp only [decide_eq_false_iff_not] at hge
  repeat (first | refine c_r ?_ | refine rg0 ?_)
  refine rt0 Tryz.ntmps72 ?_
  refine ⟨?_, hE13.trans hEA⟩
  have : (R.any fun r => under r.owner n) = false := by
   rw [List.any_eq_false]
   intro x hx
   obtain ⟨j, hj, rfl⟩ := List.getElem_of_mem hx
   rw [hlow j hj (by omega)]; exact Bool.false_ne_true
  rw [this]
end Go.Proofs.YtopbbjdembnfdaaGreat

namespace Go.Proofs.YtopbbjdembnfdaaGreat
open Go

theorem foldN_drop (n : Nm) (k : Nat) : foldN (n.drop k) = (foldN n).drop k := by unfold foldN; rw [List.map_drop]
theorem under_low {x y : Nm} (h : under x y = true) {k : Nat} (hk : k ≤ y.length) : under x (y.drop k) = true := by
 unfold under at h ⊢
 simp only [Bool.and_eq_true, decide_eq_true_eq] at h ⊢
 obtain ⟨h1, h2⟩ := h
 refine ⟨by rw [List.length_drop]; omega, ?_⟩
 rw [List.length_drop, show x.length - (y.length - k) = (x.length - y.length) + k from by omega, ← List.drop_drop, foldN_drop, h2, ← foldN_drop]
theorem under_down {n o : Nm} {i : Nat} (hi : i ≤ n.length) : under (n.drop i) o = (decide (i ≤ n.length - o.length) && under n o) := by
 unfold under
 rw [Bool.eq_iff_iff]
 simp only [Bool.and_eq_true, decide_eq_true_eq, List.length_drop, List.drop_drop]
 constructor
 ·rintro ⟨h1, h2⟩
  refine ⟨by omega, by omega, ?_⟩
  rw [show n.length - o.length = i + (n.length - i - o.length) from by omega]; exact h2
 ·rintro ⟨h1, h2, h3⟩
  refine ⟨by omega, ?_⟩
  rw [show i + (n.length - i - o.length) = n.length - o.length from by omega]; exact h3
theorem exists_down {o n : Nm} {R : List RecL} {i j : Nat} (h : existsL o R (n.drop i) = true) (hij : i ≤ j) (hj : j ≤ n.length - o.length) (hjn : j ≤ n.length) : existsL o R (n.drop j) = true := by
 unfold existsL at h ⊢
 simp only [Bool.and_eq_true, Bool.or_eq_true, decide_eq_true_eq] at h ⊢
 obtain ⟨h1, h2⟩ := h
 rw [under_down (by omega)] at h1 ⊢
 simp only [Bool.and_eq_true, decide_eq_true_eq] at h1 ⊢
 refine ⟨⟨hj, h1.2⟩, ?_⟩
 rcases h2 with h2 | h2
 ·left
  rw [List.length_drop] at h2 ⊢
  have := under_len h1.2
  omega
 ·right
  obtain ⟨r, hr, h3⟩ := List.any_eq_true.1 h2
  refine List.any_eq_true.2 ⟨r, hr, ?_⟩
  have := under_low h3 (k := j - i) (by rw [List.length_drop]; omega)
  rw [List.drop_drop, show i + (j - i) = j from by omega] at this
  exact this
theorem while_down {n : Nm} {p : Nm → Bool} {i : Nat} : ∀ {K : Nat}, i ≤ K → (∀ j, i ≤ j → j ≤ K → p (n.drop j) = true) → (∀ j, j < i → p (n.drop j) = false) → ((downF n K).takeWhile p).getLast? = some (n.drop i)
 | 0, hi, h1, h2 => by
  have : i = 0 := by omega
  subst this
  have := h1 0 (Nat.le_refl _) (Nat.le_refl _)
  unfold downF
  rw [List.takeWhile_cons_of_pos this]; rfl
 | K + 1, hi, h1, h2 => by
  unfold downF
  rw [List.takeWhile_cons_of_pos (h1 _ hi (Nat.le_refl _))]
  by_cases hK : i = K + 1
  ·subst hK
   have h3 := h2 K (by omega)
   have : (downF n K).takeWhile p = [] := by
    cases K with
    | zero => unfold downF; rw [List.takeWhile_cons_of_neg (by rw [h3]; exact Bool.false_ne_true)]
    | succ K => unfold downF; rw [List.takeWhile_cons_of_neg (by rw [h3]; exact Bool.false_ne_true)]
   rw [this]; rfl
  ·have h3 := while_down (K := K) (by omega) (fun j a b => h1 j a (by omega)) h2
   rw [List.getLast?_cons, h3]; rfl
theorem encl_at {o n : Nm} {R : List RecL} {i : Nat} (hi : i ≤ n.length) (h : existsL o R (n.drop i) = true) (hlow : ∀ j, j < i → existsL o R (n.drop j) = false) : enclL o R n = n.drop i := by
 have h1 : under (n.drop i) o = true := by
  unfold existsL at h
  simp only [Bool.and_eq_true] at h
  exact h.1
 rw [under_down hi] at h1
 simp only [Bool.and_eq_true, decide_eq_true_eq] at h1
 unfold enclL downs
 rw [if_pos h1.2, if_pos (under_len h1.2), while_down h1.1 (fun j a b => exists_down h a b (by omega)) hlow]; rfl
theorem encl_no {o n : Nm} {R : List RecL} (hlow : ∀ j, j ≤ n.length → existsL o R (n.drop j) = false) : enclL o R n = [] := by
 by_cases hu : under n o = true
 ·exfalso
  have hl := under_len hu
  have h := hlow (n.length - o.length) (by omega)
  unfold existsL at h
  rw [under_down (by omega), hu] at h
  simp at h
  omega
 ·unfold enclL
  rw [if_neg hu]
end Go.Proofs.YtopbbjdembnfdaaGreat

namespace Go.Proofs.YtopbbjdembnfdaaGreat
open Go
set_option maxRecDepth 10000

theorem RChild_ok (w : World) (b : Value) (l : List UInt8) (xs : Nm) (hb : Row w b (xs.map vs)) (hxl : xs.length ≤ 1000000000000) :
  Fn Tryz.prog 142 #[vs l, b] w (fun v w' => RowB w.heap.size w' v ((l :: xs).map vs) ∧ Ext w w') := by
 have hb0 := hb
 obtain ⟨b, cb, rfl, hcb, hlb⟩ := hb
 simp only [List.length_map] at *
 refine enter Tryz.func142 Tryz.ntmps142 rfl rfl ?_
 repeat refine c_r ?_
 refine rg0 ?_
 repeat refine c_r ?_
 refine rq ?_; intro gd K hgd hK
 try simp (disch := first | omega | assumption | rfl) only [↓reduceIte, go_sem, Nat.reduceLT, Nat.reduceEqDiff, Nat.reduceSub]
 have hbs : bsC Tryz.prog 22 1 [(0, vs l)] = some (9, #[vs l]) := bsC_one (z := vs []) rfl rfl rfl rfl rfl
 unfold bsL bsK
 rw [hbs]
 simp only []
 have hown : (w.alloc (.cells #[vs l] 9)).ownsRow w.heap.size 9 1 (.slice (some ⟨w.heap.size, 0, Option.none⟩) 1 1) 1 [vs l] :=
  ⟨rfl, .inr ⟨w.heap.size, 1, #[vs l], rfl, Nat.le_refl _, new_block w _, Nat.le_refl _, by decide, rfl, rfl⟩⟩
 try simp (disch := first | omega | assumption | rfl) only [↓reduceIte, go_sem, Nat.reduceLT, Nat.reduceEqDiff, Nat.reduceSub]
 refine op_append (P := Tryz.prog) (e := 9) (size := 1) (bytes := 16) (m := xs.length) rfl rfl rfl rfl rfl rfl (by decide) (vq0) (by simp only [↓reduceIte, go_sem, Nat.reduceLT, Nat.reduceEqDiff, Nat.reduceSub]; rfl) hown (by simpa using Src1.of_row (hb0.ext (Ext.alloc w _))) ?_ ?_ ?_ (by simp) ?_
 ·intro q hq
  obtain ⟨s, _, rfl⟩ := List.mem_map.1 hq
  rfl
 ·simp [maxLen]; omega
 ·omega
 intro v' w' hown' hgr _
 try simp (disch := first | omega | assumption | rfl) only [↓reduceIte, go_sem, Nat.reduceLT, Nat.reduceEqDiff, Nat.reduceSub]
 refine hK _ _ ?_; clear hK hgd; clear K; try clear gd
 repeat refine c_r ?_
 refine rt0 Tryz.ntmps142 ?_
 exact ⟨by simpa using RowB.of_owns hown', Keep.to_ext (Ext.alloc w _) rfl (fun b hb => by simp [Value.ownBlock] at hb; omega) hgr⟩

set_option maxHeartbeats 1000000 in
theorem REncloser_ok {w0 w : World} {ov lv nv : Value} {o n : Nm} {R : List RecL} (hz : ZnAt w0 w ov lv o R) (hn : Row w nv (n.map vs)) (hln : LB n) (hnl : n.length ≤ 1000000000000) :
  Fn Tryz.prog 143 #[.agg #[ov, lv], nv] w (fun v w' => Row w' v ((enclL o R n).map vs) ∧ Ext w w') := by
 obtain ⟨ao, co, hov, _⟩ := id hz.org
 obtain ⟨al, cl, hlv, _⟩ := hz.recs.open
 obtain ⟨an, cn, hnv, hcn, hgn⟩ := id hn
 simp only [List.length_map] at hnv hcn hgn
 rw [hov, hlv, hnv]
 refine enter Tryz.func143 Tryz.ntmps143 rfl rfl ?_
 repeat refine c_r ?_
 refine rg0 ?_
 repeat refine c_r ?_
 rw [← hov, ← hlv]
 refine W_alloc1 ?_
 intro w1 hE1 hs1 hA
 have d2 := sv_cells (n := 2) (l := [ov, lv]) hA rfl
 refine rg0 ?_
 repeat refine c_r ?_
 refine W_loop (fun m σ ds A => ds = [] ∧ ∃ (i : Nat), i + m = n.length + 1 ∧ σ 5 = vi i ∧ σ 1 = .slice an n.length cn ∧ σ 2 = .pointer (some ⟨w.heap.size, 0, Option.none⟩) ∧ Ext w1 A ∧ ∀ j, j < i → existsL o R (n.drop j) = false) (n.length + 1) ?_ ?_
 ·exact ⟨rfl, 0, by omega, vr0, vq0, vq0, Keep.refl _ _, fun j hj => absurd hj (by omega)⟩
 rintro m σ ds A ⟨rfl, i, him, h5, h1, h2, hEA, hlow⟩
 have d2A := cellsO_ext hEA d2
 have hwA := hE1.trans hEA
 repeat refine c_r ?_
 refine rg2 h5 h1 ?_
 repeat refine c_r ?_
 refine wc0 ?_ ?_
 ·intro hlt
  simp only [decide_eq_true_eq] at hlt
  have hi : i ≤ n.length := by omega
  have hi0 : (0 : Int) ≤ (i : Int) := by omega
  have hk1 : (i : Int) ≤ (n.length : Int) := by omega
  have hi1' : (i : Int) + 1 = ((i + 1 : Nat) : Int) := by push_cast; rfl
  have hrow : Row w (.slice (if cn = i then an else adr an i) (n.length - i) (cn - i)) ((n.drop i).map vs) := by
   have := Row.tail (l := n.map vs) (by simp) hcn (by simpa using hgn) (lo := i) (by simpa using hi)
   rw [← List.map_drop] at this
   simpa using this
  repeat refine c_r ?_
  refine W_mono (Q := fun e σ' ds' v' => e = .normal ∧ ds' = [] ∧ σ' 5 = vi i ∧ σ' 1 = .slice an n.length cn ∧ σ' 2 = .pointer (some ⟨w.heap.size, 0, Option.none⟩) ∧ Ext A v' ∧ σ' 16 = .bool (existsL o R (n.drop i))) ?_ ?_
  ·refine W_drw (fun _ => false) [(0, true), (1, true), (2, true), (3, true), (4, false)] NoS mixed (by kernel_rfl) ?_; intro gd K x hgd hx hxe hK; clear hxe
   have d2x := cellsO_ext hx d2A
   simp (disch := first | omega | assumption | rfl) only [↓reduceIte, go_sem, Nat.reduceLT, Nat.reduceEqDiff, Nat.reduceSub, h5, h1, h2, hi0, hk1, d2x]
   refine Fn.mono (RExists_ok (hz.ext (hwA.trans hx)) (hrow.ext (hwA.trans hx)) (hln.drop i) (by rw [List.length_drop]; omega)) ?_
   rintro _ x2 ⟨rfl, hx2⟩
   refine ⟨.inr hx2, ?_⟩
   simp (disch := first | omega | assumption | rfl) only [↓reduceIte, go_sem, Nat.reduceLT, Nat.reduceEqDiff, Nat.reduceSub]
   refine hK _ _ ?_; clear hK hgd; clear K; try clear gd
   exact ⟨rfl, rfl, (vq1 h5), (vq1 h1), (vq1 h2), hx.trans hx2, vr0⟩
  clear h5 h1 h2
  rintro _ σ1 _ A1 ⟨rfl, rfl, h5, h1, h2, hA1, h16⟩
  repeat refine c_r ?_
  refine W_cond (t := existsL o R (n.drop i)) ((vq1 h16)) ?_ ?_
  ·intro ht
   repeat refine c_r ?_
   refine rg4 h5 h1 hi0 hk1 ?_
   repeat refine c_r ?_
   refine rt0 Tryz.ntmps143 ?_
   rw [encl_at hi ht hlow]
   exact ⟨hrow.ext (hwA.trans hA1), hwA.trans hA1⟩
  ·intro ht
   repeat refine c_r ?_
   refine rg2 h5 hi1' ?_
   repeat refine c_r ?_
   refine ⟨m - 1, by omega, rfl, i + 1, by omega, vq0, (vq1 h1), (vq1 h2), hEA.trans hA1, fun j hji => ?_⟩
   by_cases hj2 : j = i
   ·subst hj2; exact ht
   ·exact hlow j (by omega)
 ·intro hge
  simp only [decide_eq_false_iff_not] at hge
  repeat (first | refine c_r ?_ | refine rg0 ?_)
  refine rt0 Tryz.ntmps143 ?_
  rw [encl_no (fun j hj => hlow j (by omega))]
  exact ⟨⟨Option.none, 0, rfl, Nat.le_refl _, fun j h => absurd h (by simp)⟩, hwA⟩

set_option maxHeartbeats 1000000 in
theorem RSource_ok {w0 w : World} {ov lv nv : Value} {o n : Nm} {R : List RecL} (hz : ZnAt w0 w ov lv o R) (hn : Row w nv (n.map vs)) (hln : LB n) (hnl : n.length ≤ 1000000000) :
  Fn Tryz.prog 74 #[.agg #[ov, lv], nv] w (fun v w' => Ext w w' ∧ ∃ sv, v = .tuple #[sv, .bool (sourceL o R n).isSome] ∧ Row w' sv (((sourceL o R n).getD []).map vs)) := by
 obtain ⟨ao, co, hov, _⟩ := id hz.org
 obtain ⟨al, cl, hlv, hcl, hgl⟩ := hz.recs.open
 have hRlen := hz.rl
 rw [hov, hlv]
 refine enter Tryz.func74 Tryz.ntmps74 rfl rfl ?_
 repeat refine c_r ?_
 refine rg0 ?_
 repeat refine c_r ?_
 rw [← hov, ← hlv]
 refine W_alloc1 ?_
 intro w1 hE1 hs1 hA
 have d2 := sv_cells (n := 2) (l := [ov, lv]) hA rfl
 have p1 : cellO w1 (some ⟨w.heap.size, 1, Option.none⟩) = some lv := cellO_at hA rfl
 rw [hlv] at p1
 have hz1 := hz.ext hE1
 refine rq ?_; intro gd K hgd hK
 try simp (disch := first | omega | assumption | rfl) only [↓reduceIte, go_sem, Nat.reduceLT, Nat.reduceEqDiff, Nat.reduceSub, d2]
 refine Fn.mono (REncloser_ok hz1 (hn.ext hE1) hln (by omega)) ?_
 rintro ev w2 ⟨hev, hE2⟩
 try simp (disch := first | omega | assumption | rfl) only [↓reduceIte, go_sem, Nat.reduceLT, Nat.reduceEqDiff, Nat.reduceSub]
 refine Fn.mono (RChild_ok w2 ev starL (enclL o R n) hev (by have := encl_len (o := o) (R := R) (n := n); omega)) ?_
 rintro sv w3 ⟨hsv, hE3⟩
 try simp (disch := first | omega | assumption | rfl) only [↓reduceIte, go_sem, Nat.reduceLT, Nat.reduceEqDiff, Nat.reduceSub]
 refine hK _ _ ?_; clear hK hgd; clear K; try clear gd
 have hsr : Row w3 sv ((sourceN o R n).map vs) := hsv.1
 have hslb : LB (sourceN o R n) := fun l hl => by
  rcases List.mem_cons.1 hl with rfl | hl
  ·decide
  ·exact encl_lb hln l hl
 have hsl : (sourceN o R n).length ≤ 1000000001 := by
  have := encl_len (o := o) (R := R) (n := n)
  unfold sourceN
  rw [List.length_cons]; omega
 have hE13 := hE1.trans (hE2.trans hE3)
 repeat refine c_r ?_
 refine rg0 ?_
 repeat refine c_r ?_
 refine W_loop (fun m σ ds A => ds = [] ∧ ∃ (i : Nat), i + m = R.length ∧ σ 7 = vi i ∧ σ 6 = sv ∧ σ 2 = .pointer (some ⟨w.heap.size, 0, Option.none⟩) ∧ Ext w3 A ∧ ∀ j (h : j < R.length), j < i → decide (foldN R[j].owner = foldN (sourceN o R n)) = false) R.length ?_ ?_
 ·exact ⟨rfl, 0, by omega, vr0, vq0, vq0, Keep.refl _ _, fun j h hj => absurd hj (by omega)⟩
 rintro m σ ds A ⟨rfl, i, him, h7, h6, h2, hEA, hlow⟩
 have p1A := cellO_ext ((hE2.trans hE3).trans hEA) p1
 repeat refine c_r ?_
 refine rg4 h7 h2 p1A Nat.zero_add ?_
 repeat refine c_r ?_
 refine wc0 ?_ ?_
 ·intro hlt
  simp only [decide_eq_true_eq] at hlt
  have hi : i < R.length := by omega
  have hi0 : (0 : Int) ≤ (i : Int) := by omega
  have hi1 : (i : Int) < (R.length : Int) := by omega
  have hi1' : (i : Int) + 1 = ((i + 1 : Nat) : Int) := by push_cast; rfl
  obtain ⟨cr, hcr, hRr⟩ := hgl i hi
  obtain ⟨r, hr⟩ : ∃ r, R[i] = r := ⟨_, rfl⟩
  rw [hr] at hRr
  have hrok : RecOk r := hr ▸ hz.ok _ (List.getElem_mem hi)
  have hrl := hrok.len
  obtain ⟨ow, dsc, hcrE, o1, o2, g0, g1, g2, gd⟩ := hRr.cells
  obtain ⟨xR, rfl⟩ := Option.isSome_iff_exists.1 (cellsO_some hcr)
  obtain ⟨xi, hxi⟩ : ∃ xi, adr (some xR) (i * 7) = some xi := ⟨_, rfl⟩
  rw [hxi] at hcr
  have hwA := hE13.trans hEA
  have hcx := cellsO_ext hwA hcr
  have e0 := cell_of_cells hcx g0
  rw [adr_zero] at e0
  repeat refine c_r ?_
  refine rq ?_; intro gd K hgd hK
  try simp (disch := first | omega | assumption | rfl) only [↓reduceIte, go_sem, Nat.reduceLT, Nat.reduceEqDiff, Nat.reduceSub, h7, h6, h2, p1A, Nat.zero_add, hi0, hi1, hxi, e0, adr_zero]
  refine Fn.mono (RSame_ok A _ _ _ _ (o1.ext (hz.e0.trans hwA)) (hsr.ext hEA) hrok.lb hslb (by omega) (by omega)) ?_
  rintro _ x2 ⟨rfl, hx2⟩
  try simp (disch := first | omega | assumption | rfl) only [↓reduceIte, go_sem, Nat.reduceLT, Nat.reduceEqDiff, Nat.reduceSub]
  refine hK _ _ ?_; clear hK hgd; clear K; try clear gd
  repeat refine c_r ?_
  refine W_cond (t := decide (foldN r.owner = foldN (sourceN o R n))) (vr0) ?_ ?_
  ·intro ht
   repeat refine c_r ?_
   refine rg1 h6 ?_
   repeat refine c_r ?_
   have hso : sourceL o R n = some (sourceN o R n) := by
    unfold sourceL
    rw [if_pos]
    exact List.any_eq_true.2 ⟨r, hr ▸ List.getElem_mem hi, ht⟩
   refine ret_any (.inr rfl) Tryz.ntmps74 rfl (res_tmp (v := sv) (vr0) (res_tmp (v := .bool true) (vr0) res_nil)) ?_
   exact ⟨hwA.trans hx2, sv, by rw [hso]; rfl, by rw [hso]; exact hsr.ext (hEA.trans hx2)⟩
  ·intro ht
   repeat refine c_r ?_
   refine rg2 h7 hi1' ?_
   repeat refine c_r ?_
   refine ⟨m - 1, by omega, rfl, i + 1, by omega, vq0, (vq1 h6), (vq1 h2), hEA.trans hx2, fun j hj hji => ?_⟩
   by_cases hj2 : j = i
   ·subst hj2; rw [hr]; exact ht
   ·exact hlow j hj (by omega)
 ·intro hge
  simp only [decide_eq_false_iff_not] at hge
  repeat refine c_r ?_
  refine rg0 ?_
  repeat refine c_r ?_
  have hso : sourceL o R n = Option.none := by
   unfold sourceL
   rw [if_neg]
   unfold ownsL
   rw [List.any_eq_true]
   rintro ⟨x, hx, h⟩
   obtain ⟨j, hj, rfl⟩ := List.getElem_of_mem hx
   rw [hlow j hj (by omega)] at h
   cases h
  refine ret_any (.inr rfl) Tryz.ntmps74 rfl (res_tmp (v := .slice Option.none 0 0) (vr0) (res_tmp (v := .bool false) (vr0) res_nil)) ?_
  exact ⟨hE13.trans hEA, _, by rw [hso]; rfl, by rw [hso]; exact ⟨Option.none, 0, rfl, Nat.le_refl _, fun j h => absurd h (by simp)⟩⟩

set_option maxHeartbeats 1000000 in
theorem RGlue_ok {w0 w : World} {ov lv hv : Value} {o h : Nm} {R : List RecL} (hz : ZnAt w0 w ov lv o R) (hs : SortR R) (hn : Row w hv (h.map vs)) (hln : LB h) (hnl : h.length ≤ 1000000000000) :
  Fn Tryz.prog 141 #[.agg #[ov, lv], hv] w (fun v w' => Ext w w' ∧ Rows 5 (DatAt w0) w' v (glueL R h) ∧ BlkB w.heap.size w' v) := by
 obtain ⟨ao, co, hov, _⟩ := id hz.org
 obtain ⟨al, cl, hlv, _⟩ := hz.recs.open
 have hRlen := hz.rl
 have l1 := datC_len (R := R) (n := h) (t := 1)
 have l28 := datC_len (R := R) (n := h) (t := 28)
 rw [hov, hlv]
 refine enter Tryz.func141 Tryz.ntmps141 rfl rfl ?_
 repeat refine c_r ?_
 refine rg0 ?_
 repeat refine c_r ?_
 rw [← hov, ← hlv]
 refine W_alloc1 ?_
 intro w1 hE1 hs1 hA
 have d2 := sv_cells (n := 2) (l := [ov, lv]) hA rfl
 have hln1 : ([] : List DatL).length + (datC R h 1).length ≤ 100000000000 := by simp; omega
 have hln2 : ([] ++ datC R h 1).length + (datC R h 28).length ≤ 100000000000 := by simp; omega
 refine W_tree (fun _ => false) (.run [(1, true), (2, true), (5, true), (6, true)] (.fork 5 [0, 3] (fun i => if i = 0 then (.run [(3, false), (4, false), (7, false), (8, false), (9, true)] .fin) else (.run [(0, false), (4, false), (7, false), (8, false), (9, true)] .fin)))) (above w1.heap.size) mixed (by kernel_rfl) ?_; intro gd K x hgd hx hxe hK; have hx0 := drewX hxe; clear hxe
 have d2x := cellsO_ext hx0 d2
 have hxs := hx.size
 simp (disch := first | omega | assumption | rfl) only [↓reduceIte, go_sem, Nat.reduceLT, Nat.reduceEqDiff, Nat.reduceSub, d2x]
 refine ⟨off_at (by omega), off_at (by omega), ?_⟩
 have fin : ∀ (B : Nat) (v7 : Value) (w7 : World), w.heap.size ≤ B → Ext w1 w7 → Owns 5 (DatAt w0) B w7 132 v7 (([] ++ datC R h 1) ++ datC R h 28) → Ext w w7 ∧ Rows 5 (DatAt w0) w7 v7 (glueL R h) ∧ BlkB w.heap.size w7 v7 := fun B v7 w7 hB hE ho => ⟨hE1.trans hE, ho.rows, ho.blk.mono hB⟩
 have hn1 := hn.ext (hE1.trans hx0)
 have hzx := hz.ext (hE1.trans hx0)
 simp only [allL_more, allL_one]; refine ⟨?_, ?_⟩
 ·simp (disch := first | omega | assumption | rfl) only [↓reduceIte, go_sem, Nat.reduceLT, Nat.reduceEqDiff, Nat.reduceSub]
  refine bs_nilR (k := 5) (C := DatAt w0) rfl rfl rfl rfl ?_
  intro w3 hE3 hs3 ho3
  refine ⟨.inr hE3.keep, ?_⟩
  simp (disch := first | omega | assumption | rfl) only [↓reduceIte, go_sem, Nat.reduceLT, Nat.reduceEqDiff, Nat.reduceSub]
  refine Fn.mono (RDatas_ok (hzx.ext hE3) hs (hn1.ext hE3) hln (by omega)) ?_
  rintro d1 w4 ⟨hE4, hd1, hb1⟩
  refine ⟨.inr hE4.keep, ?_⟩
  have hs4 := hE4.size
  simp (disch := first | omega | assumption | rfl) only [↓reduceIte, go_sem, Nat.reduceLT, Nat.reduceEqDiff, Nat.reduceSub]
  refine op_appR (dat_shape w0) (ho3.ext hE4) hd1 rfl rfl rfl rfl rfl rfl (by decide) (vr0) (vr0) hln1 (by decide) (by omega) ?_
  intro v5 w5 ho5 hE5' hk5 _
  refine ⟨.inr (hk5.mono fun b _ hb => by have := (ho3.ge hb).1; show _ ≤ _; omega), ?_⟩
  have hs5 := hk5.size
  have hE15 : Ext w1 w5 := hE5' w1 ((hx0.trans hE3).trans hE4) (by omega)
  simp (disch := first | omega | assumption | rfl) only [↓reduceIte, go_sem, Nat.reduceLT, Nat.reduceEqDiff, Nat.reduceSub]
  refine Fn.mono (RDatas_ok (hz.ext (hE1.trans hE15)) hs (hn.ext (hE1.trans hE15)) hln (by omega)) ?_
  rintro d2 w6 ⟨hE6, hd2, hb2⟩
  refine ⟨.inr hE6.keep, ?_⟩
  have hs6 := hE6.size
  simp (disch := first | omega | assumption | rfl) only [↓reduceIte, go_sem, Nat.reduceLT, Nat.reduceEqDiff, Nat.reduceSub]
  refine op_appR (dat_shape w0) (ho5.ext hE6) hd2 rfl rfl rfl rfl rfl rfl (by decide) (vr0) (vr0) hln2 (by decide) (by omega) ?_
  intro v7 w7 ho7 hE7' hk7 _
  refine ⟨.inr (hk7.mono fun b _ hb => by have := (ho5.ge hb).1; show _ ≤ _; omega), ?_⟩
  simp (disch := first | omega | assumption | rfl) only [↓reduceIte, go_sem, Nat.reduceLT, Nat.reduceEqDiff, Nat.reduceSub]
  refine hK _ _ ?_; clear hK hgd; clear K; try clear gd
  repeat refine c_r ?_
  refine rt0 Tryz.ntmps141 ?_
  exact fin _ _ _ (by omega) (hE7' w1 (hE15.trans hE6) (by omega)) ho7
 ·simp (disch := first | omega | assumption | rfl) only [↓reduceIte, go_sem, Nat.reduceLT, Nat.reduceEqDiff, Nat.reduceSub]
  refine Fn.mono (RDatas_ok hzx hs hn1 hln (by omega)) ?_
  rintro d1 w4 ⟨hE4, hd1, hb1⟩
  refine ⟨.inr hE4.keep, ?_⟩
  have hs4 := hE4.size
  simp (disch := first | omega | assumption | rfl) only [↓reduceIte, go_sem, Nat.reduceLT, Nat.reduceEqDiff, Nat.reduceSub]
  refine bs_nilR (k := 5) (C := DatAt w0) rfl rfl rfl rfl ?_
  intro w3 hE3 hs3 ho3
  refine ⟨.inr hE3.keep, ?_⟩
  simp (disch := first | omega | assumption | rfl) only [↓reduceIte, go_sem, Nat.reduceLT, Nat.reduceEqDiff, Nat.reduceSub]
  refine op_appR (dat_shape w0) ho3 (hd1.ext hE3) rfl rfl rfl rfl rfl rfl (by decide) (vr0) (vr0) hln1 (by decide) (by omega) ?_
  intro v5 w5 ho5 hE5' hk5 _
  refine ⟨.inr (hk5.mono fun b _ hb => by have := (ho3.ge hb).1; show _ ≤ _; omega), ?_⟩
  have hs5 := hk5.size
  have hE15 : Ext w1 w5 := hE5' w1 ((hx0.trans hE4).trans hE3) (by omega)
  simp (disch := first | omega | assumption | rfl) only [↓reduceIte, go_sem, Nat.reduceLT, Nat.reduceEqDiff, Nat.reduceSub]
  refine Fn.mono (RDatas_ok (hz.ext (hE1.trans hE15)) hs (hn.ext (hE1.trans hE15)) hln (by omega)) ?_
  rintro d2 w6 ⟨hE6, hd2, hb2⟩
  refine ⟨.inr hE6.keep, ?_⟩
  have hs6 := hE6.size
  simp (disch := first | omega | assumption | rfl) only [↓reduceIte, go_sem, Nat.reduceLT, Nat.reduceEqDiff, Nat.reduceSub]
  refine op_appR (dat_shape w0) (ho5.ext hE6) hd2 rfl rfl rfl rfl rfl rfl (by decide) (vr0) (vr0) hln2 (by decide) (by omega) ?_
  intro v7 w7 ho7 hE7' hk7 _
  refine ⟨.inr (hk7.mono fun b _ hb => by have := (ho5.ge hb).1; show _ ≤ _; omega), ?_⟩
  simp (disch := first | omega | assumption | rfl) only [↓reduceIte, go_sem, Nat.reduceLT, Nat.reduceEqDiff, Nat.reduceSub]
  refine hK _ _ ?_; clear hK hgd; clear K; try clear gd
  repeat refine c_r ?_
  refine rt0 Tryz.ntmps141 ?_
  exact fin _ _ _ (by omega) (hE7' w1 (hE15.trans hE6) (by omega)) ho7
end Go.Proofs.YtopbbjdembnfdaaGreat

namespace Go.Proofs.YtopbbjdembnfdaaGreat
open Go
set_option maxRecDepth 10000

def glueOf (R : List RecL) (hs : List Nm) : List (Nm × List DatL) := hs.filterMap fun h => if glueL R h = [] then Option.none else some (h, glueL R h)
def referL (R : List RecL) (cut : Nm) : ResL := ⟨4, datC R cut 2, cut, false, glueOf R (hostsL 2 (datC R cut 2))⟩
theorem glueOf_app (R : List RecL) (a : List Nm) (h : Nm) : glueOf R (a ++ [h]) = glueOf R a ++ (if glueL R h = [] then [] else [(h, glueL R h)]) := by
 unfold glueOf
 rw [List.filterMap_append]
 congr 1
 by_cases hg : glueL R h = []
 ·simp [hg]
 ·simp [hg]

abbrev GlX := (Nm × List DatL) × (Value × Value)
def glC (cs : List Value) (x : GlX) : Prop := cs = [x.2.1, x.2.2] ∧ one x.2.1 = true ∧ one x.2.2 = true
theorem gl_shape : Shape 2 glC := by
 refine ⟨fun h => ?_, fun h => ?_⟩
 ·rw [h.1]; rfl
 ·intro q hq
  rw [h.1] at hq
  simp at hq
  rcases hq with rfl | rfl
  ·exact h.2.1
  ·exact h.2.2
theorem targets_len (t : Int) (ds : List DatL) : (targetsL t ds).length ≤ ds.length := by
 unfold targetsL
 split
 ·exact List.length_filterMap_le _ _
 ·simp
theorem hostsG_mem : ∀ (had : List (List UInt8)) (l : List Nm), ∀ x ∈ hostsG had l, x ∈ l
 | _, [], x, h => by cases h
 | had, y :: l, x, h => by
  unfold hostsG at h
  split at h
  ·exact List.mem_cons_of_mem _ (hostsG_mem had l x h)
  ·rcases List.mem_cons.1 h with rfl | h
   ·exact List.mem_cons_self ..
   ·exact List.mem_cons_of_mem _ (hostsG_mem _ l x h)
theorem hostsG_len : ∀ (had : List (List UInt8)) (l : List Nm), (hostsG had l).length ≤ l.length
 | _, [] => Nat.le_refl _
 | had, y :: l => by
  unfold hostsG
  split
  ·have := hostsG_len had l; rw [List.length_cons]; omega
  ·have := hostsG_len (textN y :: had) l; rw [List.length_cons, List.length_cons]; omega
theorem glueOf_len (R : List RecL) (hs : List Nm) : (glueOf R hs).length ≤ hs.length := List.length_filterMap_le _ _

theorem Rows.mapM {α β : Type} {k : Nat} {C : List Value → α → Prop} {C' : List Value → β → Prop} {w : World} {v : Value} {xs : List α} (h : Rows k C w v xs) (f : α → β) (hC : ∀ cs x, x ∈ xs → C cs x → C' cs (f x)) : Rows k C' w v (xs.map f) := by
 obtain ⟨L, h1, h2, h3⟩ := h
 refine ⟨L, h1, by rw [List.length_map]; exact h2, fun i h h' => ?_⟩
 rw [List.length_map] at h'
 rw [List.getElem_map]
 exact hC _ _ (List.getElem_mem h') (h3 i h h')

structure RfI (w0 w : World) (D b2 b4 b7 : Nat) (ov lv dv sv : Value) (cut : Nm) (R : List RecL) (ds : List DatL) (pre : List Nm) (U : Nat → Prop) (A : World) : Prop where
 e : Ext w A
 sz : D ≤ A.heap.size
 z : A.heap[b2]? = some (.cells #[ov, lv] 34 (0, 0))
 c : A.heap[b4]? = some (.cells #[vi 0, .slice Option.none 0 0, .slice Option.none 0 0, .bool false, .slice Option.none 0 0] 31 (0, 0))
 d : Rows 5 (DatAt w0) A dv ds
 s : Row A sv (cut.map vs)
 g : ∃ gv, ∃ G : List GlX, A.heap[b7]? = some (.cells #[vi 4, dv, sv, .bool false, gv] 31 (0, 0)) ∧ G.map Prod.fst = glueOf R pre ∧ Owns 2 glC (D + 3) A 112 gv G ∧ (∀ x ∈ G, Row w0 x.2.1 (x.1.1.map vs) ∧ Rows 5 (DatAt w0) A x.2.2 x.1.2 ∧ BlkB (D + 3) A x.2.2 ∧ ∀ a n c, x.2.2 = .slice (some a) n c → some a.block ≠ gv.ownBlock) ∧ ∀ b, U b ↔ some b = gv.ownBlock

set_option maxHeartbeats 1000000 in
theorem Refer_ok {w0 w : World} {ov lv nv : Value} {o cut : Nm} {R : List RecL} (hz : ZnAt w0 w ov lv o R) (hR : GoodR R) (hn : Row w nv (cut.map vs)) (hok : NmS cut) :
  Fn Tryz.prog 61 #[.agg #[ov, lv], nv] w (fun v w' => Ext w w' ∧ ∃ cs, v = .agg cs.toArray ∧ ResB w0 w.heap.size w' cs (referL R cut)) := by
 obtain ⟨ao, co, hov, _⟩ := id hz.org
 obtain ⟨al, cl, hlv, _⟩ := hz.recs.open
 rw [hov, hlv]
 refine enter Tryz.func61 Tryz.ntmps61 rfl rfl ?_
 repeat refine c_r ?_
 refine rg0 ?_
 repeat refine c_r ?_
 rw [← hov, ← hlv]
 rw [new_size]
 refine W_alloc2 ?_
 intro w1 hE1 hs1 hA hC
 have p1 : cellO w1 (some ⟨w.heap.size, 1, Option.none⟩) = some lv := cellO_at hA rfl
 have hz1 := hz.ext hE1
 refine rq ?_; intro gd K hgd hK
 try simp (disch := first | omega | assumption | rfl) only [↓reduceIte, go_sem, Nat.reduceLT, Nat.reduceEqDiff, Nat.reduceSub, p1, Nat.zero_add]
 refine Fn.mono (Of_ok hz1.e0 hz1.recs (hn.ext hE1) hok.lb (by have := hok.len; omega) hz.ok hz.rl) ?_
 rintro _ w2 ⟨hE2, ow, ty, tl, dv, rfl, how, hty, hdv, hdb⟩
 have hdd : (ofC R cut 2).map RecL.dat = datC R cut 2 := rfl
 rw [hdd] at hdv
 obtain ⟨bb, hbb⟩ : ∃ bb : Bool, decide (ofC R cut 2 ≠ []) = bb := ⟨_, rfl⟩
 rw [hbb]
 try simp (disch := first | omega | assumption | rfl) only [↓reduceIte, go_sem, Nat.reduceLT, Nat.reduceEqDiff, Nat.reduceSub]
 have hB3 := new_block w2 (.cells #[.slice Option.none 0 0, vi 0, v32 0, .slice Option.none 0 0] 209 (0, 0))
 have hE4 := Ext.alloc w2 (.cells #[.slice Option.none 0 0, vi 0, v32 0, .slice Option.none 0 0] 209 (0, 0))
 have hs4 := new_size w2 (.cells #[.slice Option.none 0 0, vi 0, v32 0, .slice Option.none 0 0] 209 (0, 0))
 revert hB3 hE4 hs4
 generalize w2.alloc (.cells #[.slice Option.none 0 0, vi 0, v32 0, .slice Option.none 0 0] 209 (0, 0)) = w3
 intro hB3 hE4 hs4
 obtain ⟨ad, cd, hdv', hcd, _⟩ := hdv.open
 refine sv_all (P := Tryz.prog) (t := 209) (l := [ow, vi ty, v32 tl, dv]) hB3 rfl (fun v h => by
  simp at h
  rcases h with rfl | rfl | rfl | rfl
  ·exact how
  ·rfl
  ·rfl
  ·rw [hdv']; rfl) rfl rfl ?_
 intro w4 hs5 hB5 hk5
 try simp (disch := first | omega | assumption | rfl) only [↓reduceIte, go_sem, Nat.reduceLT, Nat.reduceEqDiff, Nat.reduceSub]
 refine hK _ _ ?_; clear hK hgd; clear K; try clear gd
 have hE5 : Ext w2 w4 := Keep.to_ext hE4 rfl (fun b hb => by omega) hk5
 have hE14 := hE2.trans hE5
 have hEw4 := hE1.trans hE14
 have q3 : cellO w4 (some ⟨w2.heap.size, 3, Option.none⟩) = some dv := sv_get hB5 rfl
 have hdv4 := hdv.ext hE5
 have hdb4 : BlkB w.heap.size w4 dv := (hdb.ext hE5.size).mono hE1.size
 have e1 := hE1.size
 have e2 := hE14.size
 clear hB3 hE4 hs4 hk5 hs5
 repeat refine c_r ?_
 refine W_mono (Q := fun e σ' ds' v' => e = .normal ∧ ds' = [] ∧ σ' 2 = .pointer (some ⟨w.heap.size, 0, Option.none⟩) ∧ σ' 4 = .pointer (some ⟨w.heap.size + 1, 0, Option.none⟩) ∧ σ' 5 = .pointer (some ⟨w2.heap.size, 0, Option.none⟩) ∧ Ext w4 v' ∧ ∃ b7 sv, σ' 7 = .pointer (some ⟨b7, 0, Option.none⟩) ∧ w4.heap.size ≤ b7 ∧ v'.heap[b7]? = some (.cells #[vi 4, dv, sv, .bool false, .slice Option.none 0 0] 31 (0, 0)) ∧ Row v' sv (cut.map vs) ∧ BlkB w4.heap.size v' sv ∧ ∀ a n c, sv = .slice (some a) n c → a.block ≠ b7) ?_ ?_
 ·refine W_tree (fun i => i == 7) (.run [(0, true), (3, true), (4, true)] (.fork 4 [1, 6] (fun i => if i = 1 then (.run [] (.fork 3 [2, 6] (fun i => if i = 2 then (.run [(5, true), (6, false), (7, false)] .fin) else (.run [(2, false), (5, true), (7, false)] .fin)))) else (.run [(1, false), (2, false), (5, true), (7, false)] .fin)))) NoS mixed (by kernel_rfl) ?_; intro gd K x hgd hx hxe hK; clear hxe
  have q3x := cellO_ext hx q3
  simp (disch := first | omega | assumption | rfl) only [↓reduceIte, go_sem, Nat.reduceLT, Nat.reduceEqDiff, Nat.reduceSub, q3x, Nat.zero_add]
  simp only [allL_more, allL_one]; refine ⟨?_, ?_⟩
  ·simp (disch := first | omega | assumption | rfl) only [↓reduceIte, go_sem, Nat.reduceLT, Nat.reduceEqDiff, Nat.reduceSub]
   refine Fn.mono (CloneS_ok (hn.ext (hEw4.trans (hx))) hok.len) ?_
   rintro u y1 ⟨hou, hy1⟩
   refine ⟨.inr hy1, ?_⟩
   obtain ⟨au, cu, hu'⟩ := hou.slice
   have hur := hou.row
   have hub := hou.blk
   rw [hu'] at hur hub
   rw [List.length_map] at hu' hur hub
   rw [hu']
   obtain ⟨_, _, he, hcc, hgg⟩ := id hur
   injection he with g1 g2 g3
   subst g1 g3
   rw [List.length_map] at hcc
   have hrc : Row y1 (.slice au cut.length cut.length) (cut.map vs) := ⟨au, cut.length, by rw [List.length_map], by rw [List.length_map]; exact Nat.le_refl _, hgg⟩
   have hrb : BlkB x.heap.size y1 (.slice au cut.length cut.length) := hub.same
   have hys1 := hy1.size
   simp (disch := first | omega | assumption | rfl) only [↓reduceIte, go_sem, Nat.reduceLT, Nat.reduceEqDiff, Nat.reduceSub]
   simp only [allL_more, allL_one]; refine ⟨?_, ?_⟩
   ·simp (disch := first | omega | assumption | rfl) only [↓reduceIte, go_sem, Nat.reduceLT, Nat.reduceEqDiff, Nat.reduceSub]
    refine Fn.mono (P_cs.Clip_ok hcc) ?_
    rintro _ z0 ⟨rfl, hz0⟩
    refine ⟨.inr (by rw [hz0]; exact Keep.refl _ _), ?_⟩
    rw [hz0]
    clear hz0 z0
    simp (disch := first | omega | assumption | rfl) only [↓reduceIte, go_sem, Nat.reduceLT, Nat.reduceEqDiff, Nat.reduceSub]
    refine ⟨by kernel_rfl, ?_⟩
    rw [hdv', show bdV Tryz.prog 31 [(0, vi 4), (2, .slice au cut.length cut.length), (1, .slice ad (datC R cut 2).length cd)] = some (.agg #[vi 4, .slice ad (datC R cut 2).length cd, .slice au cut.length cut.length, .bool false, .slice Option.none 0 0]) from by kernel_rfl]
    try simp (disch := first | omega | assumption | rfl) only [↓reduceIte, go_sem, Nat.reduceLT, Nat.reduceEqDiff, Nat.reduceSub]
    refine ⟨.inr (Ext.alloc y1 _), ?_⟩
    have hB7 := new_block y1 (.cells #[vi 0, .slice Option.none 0 0, .slice Option.none 0 0, .bool false, .slice Option.none 0 0] 31 (0, 0))
    have hy3 := Ext.alloc y1 (.cells #[vi 0, .slice Option.none 0 0, .slice Option.none 0 0, .bool false, .slice Option.none 0 0] 31 (0, 0))
    have hs7 := new_size y1 (.cells #[vi 0, .slice Option.none 0 0, .slice Option.none 0 0, .bool false, .slice Option.none 0 0] 31 (0, 0))
    revert hB7 hy3 hs7
    generalize y1.alloc (.cells #[vi 0, .slice Option.none 0 0, .slice Option.none 0 0, .bool false, .slice Option.none 0 0] 31 (0, 0)) = y3
    intro hB7 hy3 hs7
    have hys3 := hy3.size
    try simp (disch := first | omega | assumption | rfl) only [↓reduceIte, go_sem, Nat.reduceLT, Nat.reduceEqDiff, Nat.reduceSub]
    refine sv_all (P := Tryz.prog) (t := 31) (l := [vi 4, .slice ad (datC R cut 2).length cd, .slice au cut.length cut.length, .bool false, .slice Option.none 0 0]) hB7 rfl (fun v h => by simp at h; rcases h with rfl | rfl | rfl | rfl | rfl <;> rfl) rfl rfl ?_
    intro z hz' hbz hkz
    refine ⟨.inl rfl, ?_⟩
    simp (disch := first | omega | assumption | rfl) only [↓reduceIte, go_sem, Nat.reduceLT, Nat.reduceEqDiff, Nat.reduceSub]
    have hxs := hx.size
    have hav : ∀ a n c, Value.slice au cut.length cut.length = .slice (some a) n c → a.block ≠ y1.heap.size := fun a n c hv => by have h1 := hrb a n c hv; omega
    exact hK _ _ ⟨rfl, rfl, vq0, vq0, vq0, Keep.to_ext (((hx).trans hy1).trans hy3) rfl (fun b hb => by omega) hkz, y1.heap.size, .slice au cut.length cut.length, vq0, by omega, by rw [hdv']; exact hbz, (hrc.ext hy3).blocks (fun a n c hv => hkz.block _ (by have h1 := (hrb.ext (hy3).size) a n c hv; omega) (hav a n c hv)), (((hrb.ext (hy3).size)).ext (by omega)).mono (by omega), hav⟩
   ·simp (disch := first | omega | assumption | rfl) only [↓reduceIte, go_sem, Nat.reduceLT, Nat.reduceEqDiff, Nat.reduceSub]
    refine ⟨.inr (Ext.alloc y1 _), ?_⟩
    have hB7 := new_block y1 (.cells #[vi 0, .slice Option.none 0 0, .slice Option.none 0 0, .bool false, .slice Option.none 0 0] 31 (0, 0))
    have hy2 := Ext.alloc y1 (.cells #[vi 0, .slice Option.none 0 0, .slice Option.none 0 0, .bool false, .slice Option.none 0 0] 31 (0, 0))
    have hs7 := new_size y1 (.cells #[vi 0, .slice Option.none 0 0, .slice Option.none 0 0, .bool false, .slice Option.none 0 0] 31 (0, 0))
    revert hB7 hy2 hs7
    generalize y1.alloc (.cells #[vi 0, .slice Option.none 0 0, .slice Option.none 0 0, .bool false, .slice Option.none 0 0] 31 (0, 0)) = y2
    intro hB7 hy2 hs7
    have hys2 := hy2.size
    try simp (disch := first | omega | assumption | rfl) only [↓reduceIte, go_sem, Nat.reduceLT, Nat.reduceEqDiff, Nat.reduceSub]
    refine Fn.mono (P_cs.Clip_ok hcc) ?_
    rintro _ z0 ⟨rfl, hz0⟩
    refine ⟨.inr (by rw [hz0]; exact Keep.refl _ _), ?_⟩
    rw [hz0]
    clear hz0 z0
    simp (disch := first | omega | assumption | rfl) only [↓reduceIte, go_sem, Nat.reduceLT, Nat.reduceEqDiff, Nat.reduceSub]
    refine ⟨by kernel_rfl, ?_⟩
    rw [hdv', show bdV Tryz.prog 31 [(0, vi 4), (2, .slice au cut.length cut.length), (1, .slice ad (datC R cut 2).length cd)] = some (.agg #[vi 4, .slice ad (datC R cut 2).length cd, .slice au cut.length cut.length, .bool false, .slice Option.none 0 0]) from by kernel_rfl]
    try simp (disch := first | omega | assumption | rfl) only [↓reduceIte, go_sem, Nat.reduceLT, Nat.reduceEqDiff, Nat.reduceSub]
    refine sv_all (P := Tryz.prog) (t := 31) (l := [vi 4, .slice ad (datC R cut 2).length cd, .slice au cut.length cut.length, .bool false, .slice Option.none 0 0]) hB7 rfl (fun v h => by simp at h; rcases h with rfl | rfl | rfl | rfl | rfl <;> rfl) rfl rfl ?_
    intro z hz' hbz hkz
    refine ⟨.inl rfl, ?_⟩
    simp (disch := first | omega | assumption | rfl) only [↓reduceIte, go_sem, Nat.reduceLT, Nat.reduceEqDiff, Nat.reduceSub]
    have hxs := hx.size
    have hav : ∀ a n c, Value.slice au cut.length cut.length = .slice (some a) n c → a.block ≠ y1.heap.size := fun a n c hv => by have h1 := hrb a n c hv; omega
    exact hK _ _ ⟨rfl, rfl, vq0, vq0, vq0, Keep.to_ext (((hx).trans hy1).trans hy2) rfl (fun b hb => by omega) hkz, y1.heap.size, .slice au cut.length cut.length, vq0, by omega, by rw [hdv']; exact hbz, (hrc.ext hy2).blocks (fun a n c hv => hkz.block _ (by have h1 := (hrb.ext (hy2).size) a n c hv; omega) (hav a n c hv)), (((hrb.ext (hy2).size)).ext (by omega)).mono (by omega), hav⟩
  ·simp (disch := first | omega | assumption | rfl) only [↓reduceIte, go_sem, Nat.reduceLT, Nat.reduceEqDiff, Nat.reduceSub]
   refine ⟨.inr (Ext.alloc x _), ?_⟩
   have hB7 := new_block x (.cells #[vi 0, .slice Option.none 0 0, .slice Option.none 0 0, .bool false, .slice Option.none 0 0] 31 (0, 0))
   have hy1 := Ext.alloc x (.cells #[vi 0, .slice Option.none 0 0, .slice Option.none 0 0, .bool false, .slice Option.none 0 0] 31 (0, 0))
   have hs7 := new_size x (.cells #[vi 0, .slice Option.none 0 0, .slice Option.none 0 0, .bool false, .slice Option.none 0 0] 31 (0, 0))
   revert hB7 hy1 hs7
   generalize x.alloc (.cells #[vi 0, .slice Option.none 0 0, .slice Option.none 0 0, .bool false, .slice Option.none 0 0] 31 (0, 0)) = y1
   intro hB7 hy1 hs7
   have hys1 := hy1.size
   try simp (disch := first | omega | assumption | rfl) only [↓reduceIte, go_sem, Nat.reduceLT, Nat.reduceEqDiff, Nat.reduceSub]
   refine Fn.mono (CloneS_ok (hn.ext (hEw4.trans ((hx).trans hy1))) hok.len) ?_
   rintro u y2 ⟨hou, hy2⟩
   refine ⟨.inr hy2, ?_⟩
   obtain ⟨au, cu, hu'⟩ := hou.slice
   have hur := hou.row
   have hub := hou.blk
   rw [hu'] at hur hub
   rw [List.length_map] at hu' hur hub
   rw [hu']
   obtain ⟨_, _, he, hcc, hgg⟩ := id hur
   injection he with g1 g2 g3
   subst g1 g3
   rw [List.length_map] at hcc
   have hrc : Row y2 (.slice au cut.length cut.length) (cut.map vs) := ⟨au, cut.length, by rw [List.length_map], by rw [List.length_map]; exact Nat.le_refl _, hgg⟩
   have hrb : BlkB y1.heap.size y2 (.slice au cut.length cut.length) := hub.same
   have hys2 := hy2.size
   simp (disch := first | omega | assumption | rfl) only [↓reduceIte, go_sem, Nat.reduceLT, Nat.reduceEqDiff, Nat.reduceSub]
   refine Fn.mono (P_cs.Clip_ok hcc) ?_
   rintro _ z0 ⟨rfl, hz0⟩
   refine ⟨.inr (by rw [hz0]; exact Keep.refl _ _), ?_⟩
   rw [hz0]
   clear hz0 z0
   simp (disch := first | omega | assumption | rfl) only [↓reduceIte, go_sem, Nat.reduceLT, Nat.reduceEqDiff, Nat.reduceSub]
   refine ⟨by kernel_rfl, ?_⟩
   rw [hdv', show bdV Tryz.prog 31 [(0, vi 4), (2, .slice au cut.length cut.length), (1, .slice ad (datC R cut 2).length cd)] = some (.agg #[vi 4, .slice ad (datC R cut 2).length cd, .slice au cut.length cut.length, .bool false, .slice Option.none 0 0]) from by kernel_rfl]
   try simp (disch := first | omega | assumption | rfl) only [↓reduceIte, go_sem, Nat.reduceLT, Nat.reduceEqDiff, Nat.reduceSub]
   refine sv_all (P := Tryz.prog) (t := 31) (l := [vi 4, .slice ad (datC R cut 2).length cd, .slice au cut.length cut.length, .bool false, .slice Option.none 0 0]) (Ext.at hy2 hB7) rfl (fun v h => by simp at h; rcases h with rfl | rfl | rfl | rfl | rfl <;> rfl) rfl rfl ?_
   intro z hz' hbz hkz
   refine ⟨.inl rfl, ?_⟩
   simp (disch := first | omega | assumption | rfl) only [↓reduceIte, go_sem, Nat.reduceLT, Nat.reduceEqDiff, Nat.reduceSub]
   have hxs := hx.size
   have hav : ∀ a n c, Value.slice au cut.length cut.length = .slice (some a) n c → a.block ≠ x.heap.size := fun a n c hv => by have h1 := hrb a n c hv; omega
   exact hK _ _ ⟨rfl, rfl, vq0, vq0, vq0, Keep.to_ext (((hx).trans hy1).trans hy2) rfl (fun b hb => by omega) hkz, x.heap.size, .slice au cut.length cut.length, vq0, by omega, by rw [hdv']; exact hbz, hrc.blocks (fun a n c hv => hkz.block _ (by have h1 := hrb a n c hv; omega) (hav a n c hv)), ((hrb).ext (by omega)).mono (by omega), hav⟩
 rintro _ σ1 _ w5 ⟨rfl, rfl, h2, h4, h5, hE6, b7, sv, h7, hb7, hB7, hsv, hsb, hsne⟩
 have hEw5 := hEw4.trans hE6
 have d5 := sv_cells (n := 4) (Ext.at hE6 hB5) rfl
 have hdv5 := hdv4.ext hE6
 have hb7l : b7 < w5.heap.size := (Array.getElem?_eq_some_iff.1 hB7).1
 have hsA5 := Ext.at (hE14.trans hE6) hA
 have hsC5 := Ext.at (hE14.trans hE6) hC
 have e3 := hz.e0.size
 have e6 := hE6.size
 have hdlow : ∀ a n c, dv = .slice (some a) n c → a.block < w4.heap.size := fun a n c hv => (hdb4 a n c hv).2
 repeat refine c_r ?_
 refine rq ?_; intro gd K hgd hK
 try simp (disch := first | omega | assumption | rfl) only [↓reduceIte, go_sem, Nat.reduceLT, Nat.reduceEqDiff, Nat.reduceSub, h5, d5]
 refine Fn.mono hosts_ok ?_
 rintro _ w6 ⟨rfl, hE7, hs7, hb8⟩
 try simp (disch := first | omega | assumption | rfl) only [↓reduceIte, go_sem, Nat.reduceLT, Nat.reduceEqDiff, Nat.reduceSub]
 refine hK _ _ ?_; clear hK hgd; clear K; try clear gd
 have hEw6 := hEw5.trans hE7
 have tyEq : datC R cut 2 ≠ [] → ty = 2 := fun h => hty (datC_ne.2 h)
 -- the hosts, whatever the type says of no records
 have hH : hostsL ty (datC R cut 2) = hostsL 2 (datC R cut 2) := by
  by_cases hne : datC R cut 2 = []
  ·rw [hne]; unfold hostsL targetsL; split <;> split <;> rfl
  ·rw [tyEq hne]
 have hit := hostsIt (C := fun b => b = b7) (hz.e0.trans hEw6) hb8 how rfl (hdv5.ext hE7) (fun b hb => by omega) (by have := datC_len (R := R) (n := cut) (t := 2); have := hz.rl; omega) (targets_good hR (t := 2) (n := cut) (fun d hd => hd))
 rw [hH] at hit
 obtain ⟨D, hD⟩ : ∃ D, w6.heap.size = D := ⟨_, rfl⟩
 have hHl : (hostsL 2 (datC R cut 2)).length ≤ 1000000000 := by
  have h1 := hostsG_len [] (targetsL 2 (datC R cut 2))
  have h2 := targets_len 2 (datC R cut 2)
  have h3 := datC_len (R := R) (n := cut) (t := 2)
  have h4 := hz.rl
  unfold hostsL; omega
 have hHg : ∀ x ∈ hostsL 2 (datC R cut 2), NmG x := fun x hx => targets_good hR (t := 2) (n := cut) (fun d hd => hd) x (hostsG_mem _ _ x hx)
 have hslow : ∀ a n c, sv = .slice (some a) n c → a.block < w5.heap.size := fun a n c hv => (hsb a n c hv).2
 repeat refine c_r ?_
 refine W_rangeU (g := 177) (cap := #[.pointer (some ⟨w5.heap.size, 0, Option.none⟩)]) (vq0) rfl hit (Keep.refl _ _) (Nat.le_refl _) (fun b hb => by omega)
  (fun x U B args h => by obtain ⟨v, h, _⟩ := h; rw [h]; rfl)
  (RfI w0 w D w.heap.size (w.heap.size + 1) b7 ov lv dv sv cut R (datC R cut 2))
  (fun _ _ _ => False) ?_ (fun _ _ _ _ h _ => h.elim) ?_ ?_ ?_ (fun _ _ _ _ _ _ h _ => h.elim)
 ·rintro pre U A B ⟨i1, isz, i2, i3, i4, i5, gv, G, i6, i7, i8, i9, i10⟩ hU hk
  have hsA := (Array.getElem?_eq_some_iff.1 i6).1
  have hks := hk.size
  have hlow : ∀ b, b < D → ¬ span w6.heap.size (2 + 1) b := fun b hb => by unfold span; omega
  refine ⟨Keep.to_ext i1 rfl (fun b hb => by unfold span at hb; omega) hk, by omega, (hk.block _ (Array.getElem?_eq_some_iff.1 i2).1 (hlow _ (by omega))).trans i2, (hk.block _ (Array.getElem?_eq_some_iff.1 i3).1 (hlow _ (by omega))).trans i3, ?_, ?_, gv, G, (hk.block _ hsA (hlow _ (by omega))).trans i6, i7, i8.keep hk (fun b hb h => by have := (i8.ge hb).1; unfold span at h; omega), fun x hx => ?_, i10⟩
  ·exact i4.blocks fun a n c hv => by
    have h1 := hdlow a n c hv
    exact hk.block _ (by have := i1.size; omega) (hlow _ (by omega))
  ·exact i5.blocks fun a n c hv => by
    have h1 := hslow a n c hv
    exact hk.block _ (by omega) (hlow _ (by omega))
  ·obtain ⟨j1, j2, j3, j4⟩ := i9 x hx
   exact ⟨j1, j2.keep hk j3 (fun b hb _ => by unfold span; omega), j3.ext hk.size, j4⟩
 ·exact ⟨hEw6, by omega, Ext.at hE7 hsA5, Ext.at hE7 hsC5, hdv5.ext hE7, hsv.ext hE7, .slice Option.none 0 0, [], Ext.at hE7 hB7, rfl, Owns.nil _ _ _ _ _, fun x h => absurd h (by simp), fun b => ⟨fun h => h.elim, fun h => by cases h⟩⟩
 ·rintro lp pre U x A args ⟨suf, hxs⟩ hszA ⟨i1, isz, i2, i3, i4, i5, gv, G, i6, i7, i8, i9, i10⟩ hUb ⟨xv, rfl, hxr⟩
  obtain ⟨ax, cx, hxv, _⟩ := id hxr
  have hxg : NmG x := hHg x (by rw [hxs]; simp)
  have hpl : pre.length + 1 ≤ (hostsL 2 (datC R cut 2)).length := by rw [hxs]; simp
  refine rq ?_; intro gd K hgd hK
  try simp (disch := first | omega | assumption | rfl) only [↓reduceIte, go_sem, Nat.reduceLT, Nat.reduceEqDiff, Nat.reduceSub]
  refine hK _ _ ?_; clear hK hgd; clear K; try clear gd
  refine thenQ_normal ?_
  refine ⟨rfl, Keep.refl _ _, fun Y hY => ?_⟩
  have hlow : ∀ b, b < D → ¬ two w6.heap.size b := fun b hb => by unfold two; omega
  have hhigh : ∀ b, D + 2 ≤ b → ¬ two w6.heap.size b := fun b hb => by unfold two; omega
  have hYs := hY.size
  have k2 := (hY.block _ (Array.getElem?_eq_some_iff.1 i2).1 (hlow _ (by omega))).trans i2
  have k3 := (hY.block _ (Array.getElem?_eq_some_iff.1 i3).1 (hlow _ (by omega))).trans i3
  have k6 := (hY.block _ (Array.getElem?_eq_some_iff.1 i6).1 (hlow _ (by omega))).trans i6
  have k4 : Rows 5 (DatAt w0) Y dv (datC R cut 2) := i4.blocks fun a n c hv => hY.block _ (by have := hdlow a n c hv; omega) (hlow _ (by have := hdlow a n c hv; omega))
  have k5 : Row Y sv (cut.map vs) := i5.blocks fun a n c hv => hY.block _ (by have := hslow a n c hv; omega) (hlow _ (by have := hslow a n c hv; omega))
  have k8 := i8.keep hY (fun b hb => hhigh b (by have := (i8.ge hb).1; omega))
  have k9 : ∀ x ∈ G, Row w0 x.2.1 (x.1.1.map vs) ∧ Rows 5 (DatAt w0) Y x.2.2 x.1.2 ∧ BlkB (D + 3) Y x.2.2 ∧ ∀ a n c, x.2.2 = .slice (some a) n c → some a.block ≠ gv.ownBlock := fun x hx => by
   obtain ⟨j1, j2, j3, j4⟩ := i9 x hx
   exact ⟨j1, j2.keep hY j3 (fun b hb _ => hhigh b (by omega)), j3.ext hYs, j4⟩
  have hwY : Ext w Y := Keep.to_ext i1 rfl (fun b hb => by unfold two at hb; omega) hY
  have hw0Y := hz.e0.trans hwY
  have d2 := sv_cells (n := 2) (l := [ov, lv]) k2 rfl
  have hzY := hz.ext hwY
  clear i1 i2 i3 i4 i5 i6 i8 i9
  repeat refine c_r ?_
  refine rq ?_; intro gd K hgd hK
  try simp (disch := first | omega | assumption | rfl) only [↓reduceIte, go_sem, Nat.reduceLT, Nat.reduceEqDiff, Nat.reduceSub, h2, d2]
  refine Fn.mono (Glue_ok hzY (hxr.ext hw0Y) hxg.m.s) ?_
  rintro gl Y1 ⟨hY1, hgr, hgb⟩
  obtain ⟨ag, cg, hgv, hcg, _⟩ := hgr.open
  try simp (disch := first | omega | assumption | rfl) only [↓reduceIte, go_sem, Nat.reduceLT, Nat.reduceEqDiff, Nat.reduceSub]
  refine hK _ _ ?_; clear hK hgd; clear K; try clear gd
  have hY1s := hY1.size
  repeat refine c_r ?_
  refine rg1 hgv ?_
  repeat refine c_r ?_
  refine wc0 ?_ ?_
  ·intro hlt
   simp only [decide_eq_true_eq] at hlt
   have hgne : glueL R x ≠ [] := List.length_pos_iff.1 (by omega)
   have k61 := Ext.at hY1 k6
   have g4 : cellO Y1 (some ⟨b7, 4, Option.none⟩) = some gv := sv_get (l := [vi 4, dv, sv, .bool false, gv]) k61 rfl
   have hgx : one xv = true := by rw [hxv]; rfl
   have hgo : one gl = true := by rw [hgv]; rfl
   repeat refine c_r ?_
   refine rq ?_; intro gd K hgd hK
   try simp (disch := first | omega | assumption | rfl) only [↓reduceIte, go_sem, Nat.reduceLT, Nat.reduceEqDiff, Nat.reduceSub, h7, g4, Nat.zero_add]
   rw [hxv]
   refine ⟨by kernel_rfl, ?_⟩
   rw [show bdV Tryz.prog 112 [(0, .slice ax (x.map vs).length cx), (1, .slice ag (glueL R x).length cg)] = some (.agg #[.slice ax (x.map vs).length cx, .slice ag (glueL R x).length cg]) from by kernel_rfl]
   rw [← hxv, ← hgv]
   try simp (disch := first | omega | assumption | rfl) only [↓reduceIte, go_sem, Nat.reduceLT, Nat.reduceEqDiff, Nat.reduceSub, h7, g4, Nat.zero_add]
   refine bs_oneR (a := ((x, glueL R x), (xv, gl))) (l := [xv, gl]) gl_shape (by rfl) (by rfl) (by rfl) (by rfl) ⟨rfl, hgx, hgo⟩ (by decide) ?_
   intro Y2 hY2 hsY2 hoY2
   try simp (disch := first | omega | assumption | rfl) only [↓reduceIte, go_sem, Nat.reduceLT, Nat.reduceEqDiff, Nat.reduceSub, h7, g4, Nat.zero_add]
   have hGl : G.length ≤ pre.length := by
    have h1 := congrArg List.length i7
    rw [List.length_map] at h1
    have h2 := glueOf_len R pre
    omega
   refine op_appR gl_shape ((k8.ext hY1).ext hY2) hoY2.rows (by rfl) (by rfl) (by rfl) (by rfl) (by rfl) (by rfl) (by decide) (vr0) (vr0) (by rw [List.length_singleton]; omega) (by decide) (by omega) ?_
   intro gv' Y3 hgv' _ hkY3 hfr
   try simp (disch := first | omega | assumption | rfl) only [↓reduceIte, go_sem, Nat.reduceLT, Nat.reduceEqDiff, Nat.reduceSub, h7, Nat.zero_add]
   have hown : ∀ b, some b = gv.ownBlock → D + 3 ≤ b ∧ b < Y.heap.size := fun b hb => k8.ge hb
   have hb7o : ¬ some b7 = gv.ownBlock := fun h => by have := hown b7 h; omega
   have k63 := (hkY3.block b7 (by omega) hb7o).trans (Ext.at hY2 k61)
   obtain ⟨ag', cg', hgv'', _⟩ := hgv'.rows.open
   refine sv_at (P := Tryz.prog) (t := 29) (j := 4) (l := [vi 4, dv, sv, .bool false, gv]) k63 (by simp) (by rw [hgv'']; rfl) rfl rfl ?_
   intro Y4 hsY4 hbY4 hkY4
   try simp (disch := first | omega | assumption | rfl) only [↓reduceIte, go_sem, Nat.reduceLT, Nat.reduceEqDiff, Nat.reduceSub]
   refine hK _ _ ?_; clear hK hgd; clear K; try clear gd
   have hY2s := hY2.size
   have hY3s := hkY3.size
   have hown' : ∀ b, some b = gv'.ownBlock → D + 3 ≤ b ∧ b < Y3.heap.size := fun b hb => hgv'.ge hb
   have hb7o' : ¬ some b7 = gv'.ownBlock := fun h => by have := hown' b7 h; omega
   -- from Y2 on: the row of one's own and b7 alone
   have hk24 : Keep (fun b => b = b7 ∨ some b = gv.ownBlock) Y2 Y4 := (hkY3.mono (fun b _ h => .inr h)).trans (hkY4.mono (fun b _ h => .inl h))
   have hYY2 := hY1.trans hY2
   have hYY4 : Keep (fun b => b = b7 ∨ some b = gv.ownBlock) Y Y4 := (hYY2.mono (fun b _ h => h.elim)).trans hk24
   have hlow2 : ∀ b, b < D → b ≠ b7 → ¬ (b = b7 ∨ some b = gv.ownBlock) := fun b hb hne h => by
    rcases h with h | h
    ·exact hne h
    ·have := hown b h; omega
   have hlowd : ∀ {v : Value} {L : Nat}, L ≤ D → (∀ a n c, v = .slice (some a) n c → a.block < L ∧ a.block ≠ b7) → ∀ a n c, v = .slice (some a) n c → Y4.heap[a.block]? = Y.heap[a.block]? := fun {v L} hL h a n c hv => by
    have h1 := h a n c hv
    exact hYY4.block _ (by omega) (hlow2 _ (by omega) h1.2)
   have dq : ∀ (q : Value) (yw : World), (∀ a n c, q = .slice (some a) n c → a.block < Y2.heap.size ∧ a.block ≠ b7 ∧ some a.block ≠ gv.ownBlock) → ∀ a n c, q = .slice (some a) n c → Y4.heap[a.block]? = Y2.heap[a.block]? := fun q yw h a n c hv => by
    obtain ⟨h1, h2, h3⟩ := h a n c hv
    exact hk24.block _ h1 (fun h => by
     rcases h with h | h
     ·exact h2 h
     ·exact h3 h)
   repeat refine c_r ?_
   refine ⟨fun b => some b = gv'.ownBlock, ⟨Keep.to_ext hwY rfl (fun b hb => by
     rcases hb with hb | hb
     ·omega
     ·have := hown b hb; omega) hYY4, by have := hYY4.size; omega, (hYY4.block _ (by omega) (hlow2 _ (by omega) (by omega))).trans k2, (hYY4.block _ (by omega) (hlow2 _ (by omega) (by omega))).trans k3, ?_, ?_, gv', G ++ [((x, glueL R x), (xv, gl))], by simpa using hbY4, ?_, hgv'.keep hkY4 (fun b hb h => hb7o' (h ▸ hb)), fun y hy => ?_, fun b => Iff.rfl⟩, fun b hb => ?_, ?_⟩
   ·exact k4.blocks (hlowd (L := w4.heap.size) (by omega) fun a n c hv => ⟨hdlow a n c hv, by have := hdlow a n c hv; omega⟩)
   ·exact k5.blocks (hlowd (L := w5.heap.size) (by omega) fun a n c hv => ⟨hslow a n c hv, hsne a n c hv⟩)
   ·rw [List.map_append, i7, glueOf_app, if_neg hgne]; rfl
   ·rcases List.mem_append.1 hy with hy | hy
    ·obtain ⟨j1, j2, j3, j4⟩ := k9 y hy
     have j3' : BlkB (D + 3) Y2 y.2.2 := (j3.ext hY1s).ext hY2s
     refine ⟨j1, ((j2.ext hY1).ext hY2).blocks (dq _ Y (fun a n c hv => ⟨(j3' a n c hv).2, by have := j3' a n c hv; omega, j4 a n c hv⟩)), j3'.ext (by omega), fun a n c hv hb => ?_⟩
     rcases hfr _ hb with h | h
     ·exact j4 a n c hv h
     ·have := (j3' a n c hv).2; omega
    ·rw [List.mem_singleton.1 hy]
     have hgb2 : BlkB Y.heap.size Y2 gl := hgb.ext hY2s
     refine ⟨hxr, (hgr.ext hY2).blocks (dq _ Y (fun a n c hv => ⟨(hgb2 a n c hv).2, by have := hgb2 a n c hv; omega, fun h => by have := hgb2 a n c hv; have := hown _ h; omega⟩)), (hgb2.ext (by omega)).mono (by omega), fun a n c hv hb => ?_⟩
     have h1 := hgb2 a n c hv
     rcases hfr _ hb with h | h
     ·have := hown _ h; omega
     ·omega
   ·rcases hfr b hb with h | h
    ·exact .inl ((i10 b).2 h)
    ·exact .inr ⟨by omega, by have := (hown' b hb).2; omega⟩
   ·exact hYY4.mono (fun b _ h => h.imp id (fun h => (i10 b).2 h))
  ·intro hge
   simp only [decide_eq_false_iff_not] at hge
   have hgnil : glueL R x = [] := List.length_eq_zero_iff.1 (by omega)
   repeat refine c_r ?_
   refine ⟨U, ⟨hwY.trans hY1, by omega, Ext.at hY1 k2, Ext.at hY1 k3, k4.ext hY1, k5.ext hY1, gv, G, Ext.at hY1 k6, by rw [glueOf_app, if_pos hgnil, List.append_nil]; exact i7, k8.ext hY1, fun y hy => ?_, i10⟩, fun b hb => .inl hb, hY1.mono (fun _ _ h => h.elim)⟩
   obtain ⟨j1, j2, j3, j4⟩ := k9 y hy
   exact ⟨j1, j2.ext hY1, j3.ext hY1s, j4⟩
 ·rintro xs U B rfl hszB hUb ⟨i1, isz, i2, i3, i4, i5, gv, G, i6, i7, i8, i9, i10⟩ hDB
  have d5' := sv_cells (n := 5) (l := [vi 4, dv, sv, .bool false, gv]) i6 rfl
  obtain ⟨agl, cgl, hgle, _⟩ := i8.rows.open
  obtain ⟨asv, csv, hsve, _⟩ := id i5
  have hDlt : w6.heap.size < B.heap.size := (Array.getElem?_eq_some_iff.1 hDB).1
  repeat refine c_r ?_
  refine rq ?_; intro gd K hgd hK
  try simp (disch := first | omega | assumption | rfl) only [↓reduceIte, go_sem, Nat.reduceLT, Nat.reduceEqDiff, Nat.reduceSub, h7, h4, d5']
  refine sv_all (P := Tryz.prog) (t := 31) (l := [vi 4, dv, sv, .bool false, gv]) i3 rfl (fun v h => by
   simp at h
   rcases h with rfl | rfl | rfl | rfl | rfl
   ·rfl
   ·rw [hdv']; rfl
   ·rw [hsve]; rfl
   ·rfl
   ·rw [hgle]; rfl) rfl rfl ?_
  intro z hz' hbz hkz
  try simp (disch := first | omega | assumption | rfl) only [↓reduceIte, go_sem, Nat.reduceLT, Nat.reduceEqDiff, Nat.reduceSub]
  refine hK _ _ ?_; clear hK hgd; clear K; try clear gd
  repeat refine c_r ?_
  refine ret_anyM (.inr rfl) Tryz.ntmps61 rfl ((hkz.block _ (by omega) (by omega)).trans hDB) ?_
  intro Z hkZ hsZ
  have hBZ : Keep (fun b => b = w.heap.size + 1 ∨ b = w6.heap.size) B Z := (hkz.mono (fun b _ h => .inl h)).trans (hkZ.mono (fun b _ h => .inr h))
  refine ⟨_, res_agg (x := ⟨w.heap.size + 1, 0, Option.none⟩) (k := 5) ((vq1 h4)) rfl rfl (sv_cells (l := [vi 4, dv, sv, .bool false, gv]) ((hkZ.block _ (by omega) (by omega)).trans hbz) rfl) res_nil, Keep.to_ext i1 rfl (fun b hb => by omega) hBZ, _, rfl, dv, sv, gv, rfl, ?_, ?_, ?_, ?_, ?_⟩
  ·exact i4.blocks fun a n c hv => hBZ.block _ (by have := hdlow a n c hv; omega) (by have h1 := hdb4 a n c hv; have := hdlow a n c hv; have h3 := hdb a n c hv; omega)
  ·exact hdb4.ext (by have := hBZ.size; omega)
  ·refine .inl ⟨i5.blocks fun a n c hv => hBZ.block _ (by have := hslow a n c hv; omega) (by have h1 := hsb a n c hv; omega), (hsb.ext (by have := hBZ.size; omega)).mono (by omega)⟩
  ·have hgZ : Rows 2 glC Z gv G := i8.rows.blocks fun a n c hv => hBZ.block _ (i8.blk a n c hv).2 (by have := i8.blk a n c hv; omega)
   have hgl := hgZ.mapM (C' := GlB w0 w.heap.size Z) Prod.fst (fun cs x hx hc => by
    obtain ⟨j1, j2, j3, j4⟩ := i9 x hx
    exact ⟨x.2.1, x.2.2, hc.1, j1, j2.blocks fun a n c hv => hBZ.block _ (j3 a n c hv).2 (by have := j3 a n c hv; omega), (j3.ext hBZ.size).mono (by omega)⟩)
   rw [i7] at hgl
   exact hgl
  ·exact (i8.blk.ext hBZ.size).mono (by omega)
end Go.Proofs.YtopbbjdembnfdaaGreat

namespace Go.Proofs.YtopbbjdembnfdaaGreat
open Go
set_option maxRecDepth 10000

def zeroRes : ResL := ⟨0, [], [], false, []⟩
def renamedL (R : List RecL) (q n : Nm) : Option ResL :=
 if datC R n 39 = [] then Option.none
 else if checkN (swapN q n (toN 39 ((datC R n 39).take 1))) = 0 then some ⟨5, (datC R n 39).take 1, swapN q n (toN 39 ((datC R n 39).take 1)), false, []⟩
 else some ⟨6, [], [], false, []⟩
def atL (R : List RecL) (n : Nm) (t : Int) (wild : Bool) : ResL :=
 if datC R n t ≠ [] then ⟨1, datC R n t, [], wild, []⟩
 else if datC R n 5 ≠ [] then ⟨5, (datC R n 5).take 1, toN 5 ((datC R n 5).take 1), wild, []⟩
 else ⟨2, [], [], wild, []⟩
theorem toN_m {R : List RecL} (hR : GoodR R) {n : Nm} {t u : Int} : NmM (toN u ((datC R n t).take 1)) := by
 unfold toN
 cases hq : (hostsL u ((datC R n t).take 1)).getLast? with
 | none => exact ⟨fun l h => (by cases h), by simp⟩
 | some x =>
  have h1 := List.mem_of_getLast? hq
  exact (targets_good hR (t := t) (n := n) (fun d hd => List.mem_of_mem_take hd) x (hostsG_mem _ _ x h1)).m

theorem nil_row (w : World) : Row w (.slice Option.none 0 0) (([] : Nm).map vs) := ⟨Option.none, 0, rfl, Nat.le_refl _, fun j h => absurd h (by simp)⟩

abbrev zR : List Value := [vi 0, .slice Option.none 0 0, .slice Option.none 0 0, .bool false, .slice Option.none 0 0]

set_option maxHeartbeats 1000000 in
theorem Renamed_ok {w0 w : World} {ov lv qv nv : Value} {o q n : Nm} {R : List RecL} (hz : ZnAt w0 w ov lv o R) (hR : GoodR R) (hq : Row w qv (q.map vs)) (hn : Row w nv (n.map vs)) (mq : NmM q) (mn : NmM n) (hu : under q n = true) :
  Fn Tryz.prog 62 #[.agg #[ov, lv], qv, nv] w (fun v w' => Ext w w' ∧ ∃ cs, v = .tuple #[.agg cs.toArray, .bool (renamedL R q n).isSome] ∧ ResB w0 w.heap.size w' cs ((renamedL R q n).getD zeroRes)) := by
 obtain ⟨ao, co, hov, _⟩ := id hz.org
 obtain ⟨al, cl, hlv, _⟩ := hz.recs.open
 rw [hov, hlv]
 refine enter Tryz.func62 Tryz.ntmps62 rfl rfl ?_
 repeat refine c_r ?_
 refine rg0 ?_
 repeat refine c_r ?_
 rw [← hov, ← hlv]
 rw [new_size]
 refine W_alloc2 ?_
 intro w1 hE1 hs1 hA hC
 have d2 := sv_cells (n := 2) (l := [ov, lv]) hA rfl
 have hz1 := hz.ext hE1
 refine rq ?_; intro gd K hgd hK
 try simp (disch := first | omega | assumption | rfl) only [↓reduceIte, go_sem, Nat.reduceLT, Nat.reduceEqDiff, Nat.reduceSub, d2]
 refine Fn.mono (First_ok hz1 hR (hn.ext hE1) mn.s) ?_
 rintro _ w2 ⟨hE2, dv, tv, rfl, hdv, hdb, htv⟩
 obtain ⟨bb, hbb⟩ : ∃ bb : Bool, decide (datC R n 39 ≠ []) = bb := ⟨_, rfl⟩
 rw [hbb]
 try simp (disch := first | omega | assumption | rfl) only [↓reduceIte, go_sem, Nat.reduceLT, Nat.reduceEqDiff, Nat.reduceSub]
 refine hK _ _ ?_; clear hK hgd; clear K; try clear gd
 have hC2 := hE2.at hC
 have s2 := hE2.size
 have hEw2 := hE1.trans hE2
 repeat refine c_r ?_
 refine rg0 ?_
 repeat refine c_r ?_
 by_cases hne : datC R n 39 ≠ []
 ·rw [decide_eq_true hne] at hbb
  subst hbb
  refine W_cond (t := false) (vq0) (fun h => by cases h) ?_
  intro _
  repeat refine c_r ?_
  refine rq ?_; intro gd K hgd hK
  try simp (disch := first | omega | assumption | rfl) only [↓reduceIte, go_sem, Nat.reduceLT, Nat.reduceEqDiff, Nat.reduceSub]
  refine Fn.mono (NSwap_ok w2 qv nv tv q n (toN 39 ((datC R n 39).take 1)) (hq.ext hEw2) (hn.ext hEw2) (htv.ext (hz.e0.trans hEw2)) mq mn (toN_m hR) hu) ?_
  rintro v w3 ⟨hE3, hgood, hbad⟩
  have hC3 := hE3.at hC2
  have s3 := hE3.size
  by_cases hck : checkN (swapN q n (toN 39 ((datC R n 39).take 1))) = 0
  ·obtain ⟨sv, rfl, hsv, hsvb⟩ := hgood hck
   obtain ⟨as1, cs1, hsv', _⟩ := id hsv
   obtain ⟨ad, cd, hdv', _⟩ := hdv.open
   have hren : renamedL R q n = some ⟨5, (datC R n 39).take 1, swapN q n (toN 39 ((datC R n 39).take 1)), false, []⟩ := by unfold renamedL; rw [if_neg hne, if_pos hck]
   try simp (disch := first | omega | assumption | rfl) only [↓reduceIte, go_sem, Nat.reduceLT, Nat.reduceEqDiff, Nat.reduceSub]
   refine hK _ _ ?_; clear hK hgd; clear K; try clear gd
   repeat refine c_r ?_
   refine rg0 ?_
   repeat refine c_r ?_
   refine wc0 ?_ ?_
   ·intro h; simp at h
   intro _
   repeat refine c_r ?_
   refine rq ?_; intro gd K hgd hK
   try simp (disch := first | omega | assumption | rfl) only [↓reduceIte, go_sem, Nat.reduceLT, Nat.reduceEqDiff, Nat.reduceSub]
   rw [hsv', hdv']
   refine ⟨by kernel_rfl, ?_⟩
   rw [show bdV Tryz.prog 31 [(0, vi 5), (2, .slice as1 ((swapN q n (toN 39 ((datC R n 39).take 1))).map vs).length cs1), (1, .slice ad ((datC R n 39).take 1).length cd)] = some (.agg #[vi 5, .slice ad ((datC R n 39).take 1).length cd, .slice as1 ((swapN q n (toN 39 ((datC R n 39).take 1))).map vs).length cs1, .bool false, .slice Option.none 0 0]) from by kernel_rfl]
   try simp (disch := first | omega | assumption | rfl) only [↓reduceIte, go_sem, Nat.reduceLT, Nat.reduceEqDiff, Nat.reduceSub]
   refine sv_all (P := Tryz.prog) (t := 31) (l := [vi 5, .slice ad ((datC R n 39).take 1).length cd, .slice as1 ((swapN q n (toN 39 ((datC R n 39).take 1))).map vs).length cs1, .bool false, .slice Option.none 0 0]) hC3 rfl (fun v h => by simp at h; rcases h with rfl | rfl | rfl | rfl | rfl <;> rfl) rfl rfl ?_
   intro z hz' hbz hkz
   try simp (disch := first | omega | assumption | rfl) only [↓reduceIte, go_sem, Nat.reduceLT, Nat.reduceEqDiff, Nat.reduceSub]
   refine hK _ _ ?_; clear hK hgd; clear K; try clear gd
   repeat refine c_r ?_
   refine ret_any (.inr rfl) Tryz.ntmps62 rfl (res_agg (x := ⟨w.heap.size + 1, 0, Option.none⟩) (k := 5) (vq0) rfl rfl (sv_cells hbz rfl) (res_tmp (v := .bool true) (vr0) res_nil)) ?_
   refine ⟨Keep.to_ext (hEw2.trans hE3) rfl (fun b hb => by omega) hkz, _, by rw [hren]; rfl, ?_⟩
   rw [hren]
   refine ⟨_, _, _, rfl, ?_, ?_, .inl ⟨?_, ?_⟩, Rows.nil _ _ _, BlkB.nil⟩
   ·rw [← hdv']
    exact (hdv.ext hE3).keep hkz (hdb.ext hE3.size) (fun b hb _ => by omega)
   ·rw [← hdv']
    exact (hdb.ext (by omega)).mono (by omega)
   ·rw [← hsv']
    exact hsv.keepB hkz hsvb (fun b hb _ => by omega)
   ·rw [← hsv']
    exact (hsvb.ext (by omega)).mono (by omega)
  ·have hv := hbad hck
   subst hv
   have hren : renamedL R q n = some ⟨6, [], [], false, []⟩ := by unfold renamedL; rw [if_neg hne, if_neg hck]
   try simp (disch := first | omega | assumption | rfl) only [↓reduceIte, go_sem, Nat.reduceLT, Nat.reduceEqDiff, Nat.reduceSub]
   refine hK _ _ ?_; clear hK hgd; clear K; try clear gd
   repeat refine c_r ?_
   refine rg0 ?_
   repeat refine c_r ?_
   refine wc0 ?_ ?_
   ·intro _
    repeat refine c_r ?_
    refine rq ?_; intro gd K hgd hK
    try simp (disch := first | omega | assumption | rfl) only [↓reduceIte, go_sem, Nat.reduceLT, Nat.reduceEqDiff, Nat.reduceSub]
    refine ⟨by kernel_rfl, ?_⟩
    rw [show bdV Tryz.prog 31 [(0, vi 6)] = some (.agg #[vi 6, .slice Option.none 0 0, .slice Option.none 0 0, .bool false, .slice Option.none 0 0]) from by kernel_rfl]
    try simp (disch := first | omega | assumption | rfl) only [↓reduceIte, go_sem, Nat.reduceLT, Nat.reduceEqDiff, Nat.reduceSub]
    refine sv_all (P := Tryz.prog) (t := 31) (l := [vi 6, .slice Option.none 0 0, .slice Option.none 0 0, .bool false, .slice Option.none 0 0]) hC3 rfl (fun v h => by simp at h; rcases h with rfl | rfl | rfl | rfl | rfl <;> rfl) rfl rfl ?_
    intro z hz' hbz hkz
    try simp (disch := first | omega | assumption | rfl) only [↓reduceIte, go_sem, Nat.reduceLT, Nat.reduceEqDiff, Nat.reduceSub]
    refine hK _ _ ?_; clear hK hgd; clear K; try clear gd
    repeat refine c_r ?_
    refine ret_any (.inr rfl) Tryz.ntmps62 rfl (res_agg (x := ⟨w.heap.size + 1, 0, Option.none⟩) (k := 5) (vq0) rfl rfl (sv_cells hbz rfl) (res_tmp (v := .bool true) (vr0) res_nil)) ?_
    exact ⟨Keep.to_ext (hEw2.trans hE3) rfl (fun b hb => by omega) hkz, _, by rw [hren]; rfl, by rw [hren]; exact ⟨_, _, _, rfl, Rows.nil _ _ _, BlkB.nil, .inr (nil_row _), Rows.nil _ _ _, BlkB.nil⟩⟩
   ·intro h; simp at h
 ·have hnil : datC R n 39 = [] := by simpa using hne
  have hren : renamedL R q n = Option.none := by unfold renamedL; rw [if_pos hnil]
  rw [decide_eq_false hne] at hbb
  subst hbb
  refine W_cond (t := true) (vq0) ?_ (fun h => by cases h)
  intro _
  repeat refine c_r ?_
  refine rq ?_; intro gd K hgd hK
  try simp (disch := first | omega | assumption | rfl) only [↓reduceIte, go_sem, Nat.reduceLT, Nat.reduceEqDiff, Nat.reduceSub]
  refine ⟨by kernel_rfl, ?_⟩
  rw [show bdV Tryz.prog 31 [] = some (.agg #[vi 0, .slice Option.none 0 0, .slice Option.none 0 0, .bool false, .slice Option.none 0 0]) from by kernel_rfl]
  try simp (disch := first | omega | assumption | rfl) only [↓reduceIte, go_sem, Nat.reduceLT, Nat.reduceEqDiff, Nat.reduceSub]
  refine sv_all (P := Tryz.prog) (t := 31) (l := zR) hC2 rfl (fun v h => by simp at h; rcases h with rfl | rfl | rfl | rfl | rfl <;> rfl) rfl rfl ?_
  intro z hz' hbz hkz
  try simp (disch := first | omega | assumption | rfl) only [↓reduceIte, go_sem, Nat.reduceLT, Nat.reduceEqDiff, Nat.reduceSub]
  refine hK _ _ ?_; clear hK hgd; clear K; try clear gd
  repeat refine c_r ?_
  refine ret_any (.inr rfl) Tryz.ntmps62 rfl (res_agg (x := ⟨w.heap.size + 1, 0, Option.none⟩) (k := 5) (vq0) rfl rfl (sv_cells hbz rfl) (res_tmp (v := .bool false) (vr0) res_nil)) ?_
  exact ⟨Keep.to_ext hEw2 rfl (fun b hb => by omega) hkz, _, by rw [hren]; rfl, by rw [hren]; exact ⟨_, _, _, rfl, Rows.nil _ _ _, BlkB.nil, .inr (nil_row _), Rows.nil _ _ _, BlkB.nil⟩⟩

set_option maxHeartbeats 1000000 in
theorem At_ok {w0 w : World} {ov lv nv : Value} {o n : Nm} {R : List RecL} {t : Int} {wild : Bool} (hz : ZnAt w0 w ov lv o R) (hR : GoodR R) (hn : Row w nv (n.map vs)) (mn : NmS n) :
  Fn Tryz.prog 64 #[.agg #[ov, lv], nv, vi t, .bool wild] w (fun v w' => Ext w w' ∧ ∃ cs, v = .agg cs.toArray ∧ ResB w0 w.heap.size w' cs (atL R n t wild)) := by
 obtain ⟨ao, co, hov, _⟩ := id hz.org
 obtain ⟨al, cl, hlv, _⟩ := hz.recs.open
 rw [hov, hlv]
 refine enter Tryz.func64 Tryz.ntmps64 rfl rfl ?_
 repeat refine c_r ?_
 refine rg0 ?_
 repeat refine c_r ?_
 rw [← hov, ← hlv]
 rw [new_size]
 refine W_alloc2 ?_
 intro w1 hE1 hs1 hA hC
 have p1 : cellO w1 (some ⟨w.heap.size, 1, Option.none⟩) = some lv := cellO_at hA rfl
 have hz1 := hz.ext hE1
 refine rq ?_; intro gd K hgd hK
 try simp (disch := first | omega | assumption | rfl) only [↓reduceIte, go_sem, Nat.reduceLT, Nat.reduceEqDiff, Nat.reduceSub, p1, Nat.zero_add]
 refine Fn.mono (Of_ok hz1.e0 hz1.recs (hn.ext hE1) mn.lb (by have := mn.len; omega) hz.ok hz.rl) ?_
 rintro _ w2 ⟨hE2, ow, ty, tl, dv, rfl, how, hty, hdv, hdb⟩
 have hdd : (ofC R n t).map RecL.dat = datC R n t := rfl
 rw [hdd] at hdv
 obtain ⟨bb, hbb⟩ : ∃ bb : Bool, decide (datC R n t ≠ []) = bb := ⟨_, rfl⟩
 rw [show decide (ofC R n t ≠ []) = bb from by rw [← hbb]; exact decide_eq_decide.2 (datC_ne (R := R) (n := n) (t := t))]
 try simp (disch := first | omega | assumption | rfl) only [↓reduceIte, go_sem, Nat.reduceLT, Nat.reduceEqDiff, Nat.reduceSub]
 have hB3 := new_block w2 (.cells #[.slice Option.none 0 0, vi 0, v32 0, .slice Option.none 0 0] 209 (0, 0))
 have hE4 := Ext.alloc w2 (.cells #[.slice Option.none 0 0, vi 0, v32 0, .slice Option.none 0 0] 209 (0, 0))
 have hs4 := new_size w2 (.cells #[.slice Option.none 0 0, vi 0, v32 0, .slice Option.none 0 0] 209 (0, 0))
 revert hB3 hE4 hs4
 generalize w2.alloc (.cells #[.slice Option.none 0 0, vi 0, v32 0, .slice Option.none 0 0] 209 (0, 0)) = w3
 intro hB3 hE4 hs4
 obtain ⟨ad, cd, hdv', hcd, _⟩ := hdv.open
 refine sv_all (P := Tryz.prog) (t := 209) (l := [ow, vi ty, v32 tl, dv]) hB3 rfl (fun v h => by
  simp at h
  rcases h with rfl | rfl | rfl | rfl
  ·exact how
  ·rfl
  ·rfl
  ·rw [hdv']; rfl) rfl rfl ?_
 intro w4 hs5 hB5 hk5
 try simp (disch := first | omega | assumption | rfl) only [↓reduceIte, go_sem, Nat.reduceLT, Nat.reduceEqDiff, Nat.reduceSub]
 refine hK _ _ ?_; clear hK hgd; clear K; try clear gd
 have hE5 : Ext w2 w4 := Keep.to_ext hE4 rfl (fun b hb => by omega) hk5
 have hE14 := hE2.trans hE5
 have hEw4 := hE1.trans hE14
 have q3 : cellO w4 (some ⟨w2.heap.size, 3, Option.none⟩) = some dv := sv_get hB5 rfl
 have hdv4 := hdv.ext hE5
 have hdb4 : BlkB w1.heap.size w4 dv := hdb.ext hE5.size
 have hA4 := Ext.at hE14 hA
 have hC4 := Ext.at hE14 hC
 have e2 := hE14.size
 clear hB3 hE4 hs4 hk5 hs5
 repeat refine c_r ?_
 refine rg0 ?_
 repeat refine c_r ?_
 by_cases hne : datC R n t ≠ []
 ·rw [decide_eq_true hne] at hbb
  subst hbb
  have hat : atL R n t wild = ⟨1, datC R n t, [], wild, []⟩ := by unfold atL; rw [if_pos hne]
  refine W_cond (t := true) (vq0) ?_ (fun h => by cases h)
  intro _
  repeat refine c_r ?_
  refine rq ?_; intro gd K hgd hK
  try simp (disch := first | omega | assumption | rfl) only [↓reduceIte, go_sem, Nat.reduceLT, Nat.reduceEqDiff, Nat.reduceSub, q3, Nat.zero_add]
  rw [hdv']
  refine ⟨by kernel_rfl, ?_⟩
  rw [show bdV Tryz.prog 31 [(0, vi 1), (1, .slice ad (datC R n t).length cd), (3, .bool wild)] = some (.agg #[vi 1, .slice ad (datC R n t).length cd, .slice Option.none 0 0, .bool wild, .slice Option.none 0 0]) from by kernel_rfl]
  try simp (disch := first | omega | assumption | rfl) only [↓reduceIte, go_sem, Nat.reduceLT, Nat.reduceEqDiff, Nat.reduceSub]
  refine sv_all (P := Tryz.prog) (t := 31) (l := [vi 1, .slice ad (datC R n t).length cd, .slice Option.none 0 0, .bool wild, .slice Option.none 0 0]) hC4 rfl (fun v h => by simp at h; rcases h with rfl | rfl | rfl | rfl | rfl <;> rfl) rfl rfl ?_
  intro z hz' hbz hkz
  try simp (disch := first | omega | assumption | rfl) only [↓reduceIte, go_sem, Nat.reduceLT, Nat.reduceEqDiff, Nat.reduceSub]
  refine hK _ _ ?_; clear hK hgd; clear K; try clear gd
  repeat refine c_r ?_
  refine ret_any (.inr rfl) Tryz.ntmps64 rfl (res_agg (x := ⟨w.heap.size + 1, 0, Option.none⟩) (k := 5) (vq0) rfl rfl (sv_cells hbz rfl) res_nil) ?_
  refine ⟨Keep.to_ext hEw4 rfl (fun b hb => by omega) hkz, _, rfl, ?_⟩
  rw [hat]
  refine ⟨_, _, _, rfl, ?_, ?_, .inr (nil_row _), Rows.nil _ _ _, BlkB.nil⟩
  ·rw [← hdv']
   exact hdv4.keep hkz hdb4 (fun b hb _ => by omega)
  ·rw [← hdv']
   exact (hdb4.ext (by omega)).mono (by omega)
 ·have hnil : datC R n t = [] := by simpa using hne
  rw [decide_eq_false hne] at hbb
  subst hbb
  refine W_cond (t := false) (vq0) (fun h => by cases h) ?_
  intro _
  have d2 := sv_cells (n := 2) (l := [ov, lv]) hA4 rfl
  have hz4 := hz.ext hEw4
  repeat refine c_r ?_
  refine rq ?_; intro gd K hgd hK
  try simp (disch := first | omega | assumption | rfl) only [↓reduceIte, go_sem, Nat.reduceLT, Nat.reduceEqDiff, Nat.reduceSub, d2]
  refine Fn.mono (First_ok hz4 hR (hn.ext hEw4) mn) ?_
  rintro _ w5 ⟨hE6, fv, tv, rfl, hfv, hfb, htv⟩
  obtain ⟨b5, hb5⟩ : ∃ bb : Bool, decide (datC R n 5 ≠ []) = bb := ⟨_, rfl⟩
  rw [hb5]
  try simp (disch := first | omega | assumption | rfl) only [↓reduceIte, go_sem, Nat.reduceLT, Nat.reduceEqDiff, Nat.reduceSub]
  refine hK _ _ ?_; clear hK hgd; clear K; try clear gd
  have hC5 := Ext.at hE6 hC4
  have e6 := hE6.size
  have hEw5 := hEw4.trans hE6
  repeat refine c_r ?_
  refine rg0 ?_
  repeat refine c_r ?_
  by_cases hne5 : datC R n 5 ≠ []
  ·rw [decide_eq_true hne5] at hb5
   subst hb5
   obtain ⟨af, cf, hfv', _⟩ := hfv.open
   obtain ⟨at1, ct1, htv', _⟩ := id htv
   have hat : atL R n t wild = ⟨5, (datC R n 5).take 1, toN 5 ((datC R n 5).take 1), wild, []⟩ := by unfold atL; rw [if_neg hne, if_pos hne5]
   refine W_cond (t := true) (vq0) ?_ (fun h => by cases h)
   intro _
   repeat refine c_r ?_
   refine rq ?_; intro gd K hgd hK
   try simp (disch := first | omega | assumption | rfl) only [↓reduceIte, go_sem, Nat.reduceLT, Nat.reduceEqDiff, Nat.reduceSub]
   rw [hfv', htv']
   refine ⟨by kernel_rfl, ?_⟩
   rw [show bdV Tryz.prog 31 [(0, vi 5), (2, .slice at1 ((toN 5 ((datC R n 5).take 1)).map vs).length ct1), (1, .slice af ((datC R n 5).take 1).length cf), (3, .bool wild)] = some (.agg #[vi 5, .slice af ((datC R n 5).take 1).length cf, .slice at1 ((toN 5 ((datC R n 5).take 1)).map vs).length ct1, .bool wild, .slice Option.none 0 0]) from by kernel_rfl]
   try simp (disch := first | omega | assumption | rfl) only [↓reduceIte, go_sem, Nat.reduceLT, Nat.reduceEqDiff, Nat.reduceSub]
   refine sv_all (P := Tryz.prog) (t := 31) (l := [vi 5, .slice af ((datC R n 5).take 1).length cf, .slice at1 ((toN 5 ((datC R n 5).take 1)).map vs).length ct1, .bool wild, .slice Option.none 0 0]) hC5 rfl (fun v h => by simp at h; rcases h with rfl | rfl | rfl | rfl | rfl <;> rfl) rfl rfl ?_
   intro z hz' hbz hkz
   try simp (disch := first | omega | assumption | rfl) only [↓reduceIte, go_sem, Nat.reduceLT, Nat.reduceEqDiff, Nat.reduceSub]
   refine hK _ _ ?_; clear hK hgd; clear K; try clear gd
   repeat refine c_r ?_
   refine ret_any (.inr rfl) Tryz.ntmps64 rfl (res_agg (x := ⟨w.heap.size + 1, 0, Option.none⟩) (k := 5) (vq0) rfl rfl (sv_cells hbz rfl) res_nil) ?_
   have hEz : Ext w z := Keep.to_ext hEw5 rfl (fun b hb => by omega) hkz
   refine ⟨hEz, _, rfl, ?_⟩
   rw [hat]
   refine ⟨_, _, _, rfl, ?_, ?_, .inr ?_, Rows.nil _ _ _, BlkB.nil⟩
   ·rw [← hfv']
    exact hfv.keep hkz hfb (fun b hb _ => by omega)
   ·rw [← hfv']
    exact (hfb.ext (by omega)).mono (by omega)
   ·rw [← htv']
    exact htv
  ·rw [decide_eq_false hne5] at hb5
   subst hb5
   have hat : atL R n t wild = ⟨2, [], [], wild, []⟩ := by unfold atL; rw [if_neg hne, if_neg hne5]
   refine W_cond (t := false) (vq0) (fun h => by cases h) ?_
   intro _
   repeat refine c_r ?_
   refine rq ?_; intro gd K hgd hK
   try simp (disch := first | omega | assumption | rfl) only [↓reduceIte, go_sem, Nat.reduceLT, Nat.reduceEqDiff, Nat.reduceSub]
   refine ⟨by kernel_rfl, ?_⟩
   rw [show bdV Tryz.prog 31 [(0, vi 2), (3, .bool wild)] = some (.agg #[vi 2, .slice Option.none 0 0, .slice Option.none 0 0, .bool wild, .slice Option.none 0 0]) from by kernel_rfl]
   try simp (disch := first | omega | assumption | rfl) only [↓reduceIte, go_sem, Nat.reduceLT, Nat.reduceEqDiff, Nat.reduceSub]
   refine sv_all (P := Tryz.prog) (t := 31) (l := [vi 2, .slice Option.none 0 0, .slice Option.none 0 0, .bool wild, .slice Option.none 0 0]) hC5 rfl (fun v h => by simp at h; rcases h with rfl | rfl | rfl | rfl | rfl <;> rfl) rfl rfl ?_
   intro z hz' hbz hkz
   try simp (disch := first | omega | assumption | rfl) only [↓reduceIte, go_sem, Nat.reduceLT, Nat.reduceEqDiff, Nat.reduceSub]
   refine hK _ _ ?_; clear hK hgd; clear K; try clear gd
   repeat refine c_r ?_
   refine ret_any (.inr rfl) Tryz.ntmps64 rfl (res_agg (x := ⟨w.heap.size + 1, 0, Option.none⟩) (k := 5) (vq0) rfl rfl (sv_cells hbz rfl) res_nil) ?_
   refine ⟨Keep.to_ext hEw5 rfl (fun b hb => by omega) hkz, _, rfl, ?_⟩
   rw [hat]
   exact ⟨_, _, _, rfl, Rows.nil _ _ _, BlkB.nil, .inr (nil_row _), Rows.nil _ _ _, BlkB.nil⟩
end Go.Proofs.YtopbbjdembnfdaaGreat
