/-
  Texts of a proof, joined: G4, G5, K27, W0, W1, W2, Y3, M6ed, M6eg, F0, F1, G6, G7, V0, K25, V1, K28, V2.
  Conditions: none.
-/
import Derived.Test.YtopbbjdembnfdaaGreatJP09
import Derived.Test.YtopbbjdembnfdaaGreatJP01
import Derived.Test.YtopbbjdembnfdaaGreatJP06
import Derived.Test.YtopbbjdembnfdaaGreatJP08
import Derived.Test.YtopbbjdembnfdaaGreatJP04
set_option linter.unusedVariables false
set_option linter.unusedSimpArgs false
set_option linter.defProp false
set_option linter.unnecessarySimpa false
namespace Go.Proofs.YtopbbjdembnfdaaGreat
open Go
set_option maxRecDepth 10000
theorem RCheckRec_ok {w0 w : World} (hE0 : Ext w0 w) {cs : List Value} {r : RecL} (hr : RecAt w0 cs r) (hf : DatF r.dat) (ho : (∀ l ∈ r.owner, l.length ≤ 1000000000) ∧ r.owner.length ≤ 1000000000) :
  Fn Tryz.prog 122 #[.agg cs.toArray] w (fun v w' => Ext w w' ∧ ∃ e : Int, v = vi e ∧ (e = 0 → checkN r.owner = 0 ∧ (∀ n ∈ r.dat.names, checkN n = 0) ∧ (leadT r.dat.ty → r.dat.names.length = 1))) := by
 obtain ⟨ow, ds, rfl, h1, h2⟩ := hr.ex
 obtain ⟨b1, m1, e1, b2, m2, e2, b3, m3, e3, b4, m4, e4, hds⟩ := h2.open
 rw [hds]
 refine enter Tryz.func122 Tryz.ntmps122 rfl rfl ?_
 repeat refine c_r ?_
 refine rg0 ?_
 repeat refine c_r ?_
 refine W_alloc1 ?_
 intro w1 hE1 hs1 hA
 have p0 : cellO w1 (some ⟨w.heap.size, 0, Option.none⟩) = some ow := cellO_at hA rfl
 have p1 : cellO w1 (some ⟨w.heap.size, 1, Option.none⟩) = some (v32 r.ttl) := cellO_at hA rfl
 have p2 : cellsO w1 (some ⟨w.heap.size, 2, Option.none⟩) 5 = some ds := by
  have h7 := sv_cells (n := 7) (l := [ow, v32 r.ttl, vi r.dat.ty, .slice b1 m1 e1, .slice b2 m2 e2, .slice b3 m3 e3, .slice b4 m4 e4]) hA rfl
  have := cells_drop (m := 2) (k := 5) h7
  rw [adr_some] at this
  rw [hds]; exact this
 refine rq ?_; intro gd K hgd hK
 try simp (disch := first | omega | assumption | rfl) only [↓reduceIte, go_sem, Nat.reduceLT, Nat.reduceEqDiff, Nat.reduceSub, p0, Nat.add_zero]
 refine Fn.mono (RCheckName_ok w1 ow r.owner (h1.ext (hE0.trans hE1)) ho.1 ho.2) ?_
 rintro _ w2 ⟨rfl, hE2⟩
 try simp (disch := first | omega | assumption | rfl) only [↓reduceIte, go_sem, Nat.reduceLT, Nat.reduceEqDiff, Nat.reduceSub]
 refine hK _ _ ?_; clear hK hgd; clear K; try clear gd
 have hE12 := hE1.trans hE2
 have p1' := cellO_ext hE2 p1
 have p2' := cellsO_ext hE2 p2
 repeat refine c_r ?_
 refine rg0 ?_
 repeat refine c_r ?_
 by_cases h0 : checkN r.owner = 0
 rotate_left
 ·refine W_cond (t := !decide (checkN r.owner = 0)) (vr0) ?_ (fun h => by rw [decide_eq_false h0] at h; cases h)
  intro _
  repeat refine c_r ?_
  refine rg0 ?_
  repeat refine c_r ?_
  refine rt0 Tryz.ntmps122 ?_
  exact ⟨hE12, _, rfl, fun h => absurd h h0⟩
 refine W_cond (t := !decide (checkN r.owner = 0)) (vr0) (fun h => by rw [decide_eq_true h0] at h; cases h) ?_
 intro _
 repeat refine c_r ?_
 refine rg2 p1' Nat.zero_add ?_
 repeat refine c_r ?_
 refine wc0 ?_ ?_
 ·intro _
  repeat (first | refine c_r ?_ | refine rg0 ?_)
  refine rt0 Tryz.ntmps122 ?_
  exact ⟨hE12, 7, rfl, fun h => by cases h⟩
 intro _
 repeat refine c_r ?_
 refine rq ?_; intro gd K hgd hK
 try simp (disch := first | omega | assumption | rfl) only [↓reduceIte, go_sem, Nat.reduceLT, Nat.reduceEqDiff, Nat.reduceSub, p2', Nat.zero_add]
 refine Fn.mono (RCheckData_ok (hE0.trans hE12) h2 hf) ?_
 rintro _ w3 ⟨hE3, e, rfl, he⟩
 try simp (disch := first | omega | assumption | rfl) only [↓reduceIte, go_sem, Nat.reduceLT, Nat.reduceEqDiff, Nat.reduceSub]
 refine hK _ _ ?_; clear hK hgd; clear K; try clear gd
 repeat refine c_r ?_
 refine rt0 Tryz.ntmps122 ?_
 exact ⟨hE12.trans hE3, e, rfl, fun h => ⟨h0, he h⟩⟩
theorem few_f {n : Nm} (h : few n = true) : (∀ l ∈ n, l.length ≤ 1000000000) ∧ n.length ≤ 1000000000 := by
 simp only [few, Bool.and_eq_true, List.all_eq_true, decide_eq_true_eq] at h
 exact ⟨fun l hl => by have := h.2 l hl; omega, by omega⟩
set_option maxHeartbeats 1000000 in
theorem DFew_ok {w0 w : World} (hE0 : Ext w0 w) {cs : List Value} {d : DatL} (hd : DatAt w0 cs d) :
  Fn Tryz.prog 172 #[.agg cs.toArray] w (fun v w' => Ext w w' ∧ ∃ b : Bool, v = .bool b ∧ (b = true → DatF d)) := by
 obtain ⟨nm, nu, tx, rw', rfl, ⟨vals, ⟨an, cn, rfl, hcn, hgn⟩, hvl, hvr⟩, ⟨au, cu, rfl, hcu, hgu⟩, ⟨at1, ct, rfl, hct, hgt⟩, ⟨ar, cr, rfl, hcr, hgr⟩⟩ := hd.ex
 simp only [List.length_map] at hcu hgu hct hgt hcr hgr
 simp only [List.length_map]
 refine enter Tryz.func172 Tryz.ntmps172 rfl rfl ?_
 repeat refine c_r ?_
 refine rg0 ?_
 repeat refine c_r ?_
 refine W_alloc1 ?_
 intro w1 hE1 hs1 hA
 have p1 : cellO w1 (some ⟨w.heap.size, 1, Option.none⟩) = some (.slice an vals.length cn) := cellO_at hA rfl
 have p2 : cellO w1 (some ⟨w.heap.size, 2, Option.none⟩) = some (.slice au d.nums.length cu) := cellO_at hA rfl
 have p3 : cellO w1 (some ⟨w.heap.size, 3, Option.none⟩) = some (.slice at1 d.texts.length ct) := cellO_at hA rfl
 have p4 : cellO w1 (some ⟨w.heap.size, 4, Option.none⟩) = some (.slice ar d.raw.length cr) := cellO_at hA rfl
 refine W_mono (Q := fun e σ' ds' v' => e = .normal ∧ ds' = [] ∧ σ' 1 = .pointer (some ⟨w.heap.size, 0, Option.none⟩) ∧ v' = w1 ∧ ∃ bb, σ' 26 = .bool bb ∧ (bb = false → vals.length ≤ 8 ∧ d.nums.length ≤ 12 ∧ d.texts.length ≤ 40 ∧ d.raw.length ≤ 1100)) ?_ ?_
 ·by_cases hA1 : (vals.length : Int) > 8
  ·refine rq ?_; intro gd K hgd hK
   have hg4 : ∀ n σ b, wantV gd n σ (some (4, b)) = boolIs (ev n σ (.tmp 9)) b := (fun n σ b => by rw [wantV_some, show gd 4 = some 9 from (by rw [hgd]; rfl)]; rfl); have hg10 : ∀ n σ b, wantV gd n σ (some (10, b)) = boolIs (ev n σ (.tmp 15)) b := (fun n σ b => by rw [wantV_some, show gd 10 = some 15 from (by rw [hgd]; rfl)]; rfl); have hg16 : ∀ n σ b, wantV gd n σ (some (16, b)) = boolIs (ev n σ (.tmp 21)) b := (fun n σ b => by rw [wantV_some, show gd 16 = some 21 from (by rw [hgd]; rfl)]; rfl)
   try simp (disch := first | omega | assumption | rfl) only [↓reduceIte, go_sem, Nat.reduceLT, Nat.reduceEqDiff, Nat.reduceSub, p1, Nat.zero_add, decide_eq_true hA1, bi_undef, ↓hg4, ↓hg10, ↓hg16]
   refine hK _ _ ?_; clear hK hgd; clear K; try clear gd
   exact ⟨rfl, rfl, vq0, rfl, _, vr0, fun h => by cases h⟩
  by_cases hA2 : (d.nums.length : Int) > 12
  ·refine rq ?_; intro gd K hgd hK
   have hg4 : ∀ n σ b, wantV gd n σ (some (4, b)) = boolIs (ev n σ (.tmp 9)) b := (fun n σ b => by rw [wantV_some, show gd 4 = some 9 from (by rw [hgd]; rfl)]; rfl); have hg10 : ∀ n σ b, wantV gd n σ (some (10, b)) = boolIs (ev n σ (.tmp 15)) b := (fun n σ b => by rw [wantV_some, show gd 10 = some 15 from (by rw [hgd]; rfl)]; rfl); have hg16 : ∀ n σ b, wantV gd n σ (some (16, b)) = boolIs (ev n σ (.tmp 21)) b := (fun n σ b => by rw [wantV_some, show gd 16 = some 21 from (by rw [hgd]; rfl)]; rfl)
   try simp (disch := first | omega | assumption | rfl) only [↓reduceIte, go_sem, Nat.reduceLT, Nat.reduceEqDiff, Nat.reduceSub, p1, p2, Nat.zero_add, decide_eq_false hA1, decide_eq_true hA2, bi_undef, ↓hg4, ↓hg10, ↓hg16]
   refine hK _ _ ?_; clear hK hgd; clear K; try clear gd
   exact ⟨rfl, rfl, vq0, rfl, _, vr0, fun h => by cases h⟩
  by_cases hA3 : (d.texts.length : Int) > 40
  ·refine rq ?_; intro gd K hgd hK
   have hg4 : ∀ n σ b, wantV gd n σ (some (4, b)) = boolIs (ev n σ (.tmp 9)) b := (fun n σ b => by rw [wantV_some, show gd 4 = some 9 from (by rw [hgd]; rfl)]; rfl); have hg10 : ∀ n σ b, wantV gd n σ (some (10, b)) = boolIs (ev n σ (.tmp 15)) b := (fun n σ b => by rw [wantV_some, show gd 10 = some 15 from (by rw [hgd]; rfl)]; rfl); have hg16 : ∀ n σ b, wantV gd n σ (some (16, b)) = boolIs (ev n σ (.tmp 21)) b := (fun n σ b => by rw [wantV_some, show gd 16 = some 21 from (by rw [hgd]; rfl)]; rfl)
   try simp (disch := first | omega | assumption | rfl) only [↓reduceIte, go_sem, Nat.reduceLT, Nat.reduceEqDiff, Nat.reduceSub, p1, p2, p3, Nat.zero_add, decide_eq_false hA1, decide_eq_false hA2, decide_eq_true hA3, bi_undef, ↓hg4, ↓hg10, ↓hg16]
   refine hK _ _ ?_; clear hK hgd; clear K; try clear gd
   exact ⟨rfl, rfl, vq0, rfl, _, vr0, fun h => by cases h⟩
  by_cases hA4 : (d.raw.length : Int) > 1100
  ·refine rq ?_; intro gd K hgd hK
   have hg4 : ∀ n σ b, wantV gd n σ (some (4, b)) = boolIs (ev n σ (.tmp 9)) b := (fun n σ b => by rw [wantV_some, show gd 4 = some 9 from (by rw [hgd]; rfl)]; rfl); have hg10 : ∀ n σ b, wantV gd n σ (some (10, b)) = boolIs (ev n σ (.tmp 15)) b := (fun n σ b => by rw [wantV_some, show gd 10 = some 15 from (by rw [hgd]; rfl)]; rfl); have hg16 : ∀ n σ b, wantV gd n σ (some (16, b)) = boolIs (ev n σ (.tmp 21)) b := (fun n σ b => by rw [wantV_some, show gd 16 = some 21 from (by rw [hgd]; rfl)]; rfl)
   try simp (disch := first | omega | assumption | rfl) only [↓reduceIte, go_sem, Nat.reduceLT, Nat.reduceEqDiff, Nat.reduceSub, p1, p2, p3, p4, Nat.zero_add, decide_eq_false hA1, decide_eq_false hA2, decide_eq_false hA3, decide_eq_true hA4, bi_undef, ↓hg4, ↓hg10, ↓hg16]
   refine hK _ _ ?_; clear hK hgd; clear K; try clear gd
   exact ⟨rfl, rfl, vq0, rfl, _, vr0, fun h => by cases h⟩
  ·refine rq ?_; intro gd K hgd hK
   have hg4 : ∀ n σ b, wantV gd n σ (some (4, b)) = boolIs (ev n σ (.tmp 9)) b := (fun n σ b => by rw [wantV_some, show gd 4 = some 9 from (by rw [hgd]; rfl)]; rfl); have hg10 : ∀ n σ b, wantV gd n σ (some (10, b)) = boolIs (ev n σ (.tmp 15)) b := (fun n σ b => by rw [wantV_some, show gd 10 = some 15 from (by rw [hgd]; rfl)]; rfl); have hg16 : ∀ n σ b, wantV gd n σ (some (16, b)) = boolIs (ev n σ (.tmp 21)) b := (fun n σ b => by rw [wantV_some, show gd 16 = some 21 from (by rw [hgd]; rfl)]; rfl)
   try simp (disch := first | omega | assumption | rfl) only [↓reduceIte, go_sem, Nat.reduceLT, Nat.reduceEqDiff, Nat.reduceSub, p1, p2, p3, p4, Nat.zero_add, decide_eq_false hA1, decide_eq_false hA2, decide_eq_false hA3, decide_eq_false hA4, bi_undef, ↓hg4, ↓hg10, ↓hg16]
   refine hK _ _ ?_; clear hK hgd; clear K; try clear gd
   exact ⟨rfl, rfl, vq0, rfl, _, vr0, fun _ => ⟨by omega, by omega, by omega, by omega⟩⟩
 rintro _ σ1 _ v1 ⟨rfl, rfl, h1, hv1, bb, h26, hbb⟩
 rw [hv1]
 clear hv1 v1
 repeat refine c_r ?_
 refine W_cond (t := bb) ((vq1 h26)) ?_ ?_
 ·intro _
  repeat (first | refine c_r ?_ | refine rg0 ?_)
  refine rt0 Tryz.ntmps172 ?_
  exact ⟨hE1, false, rfl, fun h => by cases h⟩
 intro hb
 obtain ⟨ln, lu, lt, lr⟩ := hbb hb
 repeat refine c_r ?_
 refine rg0 ?_
 repeat refine c_r ?_
 refine W_mono (Q := fun e σ' ds' v' => ds' = [] ∧ Ext w1 v' ∧ ((e = .exit 0 ∧ σ' 1 = .pointer (some ⟨w.heap.size, 0, Option.none⟩) ∧ ∀ n ∈ d.names, few n = true) ∨ (e = .ret ∧ σ' 2 = .bool false))) ?_ ?_
 ·refine W_loop (fun m σ ds A => ds = [] ∧ ∃ (i : Nat), i + m = vals.length ∧ σ 3 = vi i ∧ σ 1 = .pointer (some ⟨w.heap.size, 0, Option.none⟩) ∧ Ext w1 A ∧ ∀ j (h : j < d.names.length), j < i → few d.names[j] = true) vals.length ?_ ?_
  ·exact ⟨rfl, 0, by omega, vr0, (vq1 h1), Keep.refl _ _, fun j h hj => absurd hj (by omega)⟩
  clear h1
  rintro m σ ds A ⟨rfl, i, him, h3, h1, hEA, hlow⟩
  have q1 := cellO_ext hEA p1
  repeat refine c_r ?_
  refine rg4 h3 h1 q1 Nat.zero_add ?_
  repeat refine c_r ?_
  refine wc0 ?_ ?_
  ·intro hlt
   simp only [decide_eq_true_eq] at hlt
   have hi : i < vals.length := by omega
   have hi0 : (0 : Int) ≤ (i : Int) := by omega
   have hi1 : (i : Int) < (vals.length : Int) := by omega
   have hi1' : (i : Int) + 1 = ((i + 1 : Nat) : Int) := by push_cast; rfl
   have hgi := hgn i hi
   obtain ⟨xN, rfl⟩ := Option.isSome_iff_exists.1 (some_of_cellO hgi)
   have hgi' := cellO_ext (hE0.trans (hE1.trans hEA)) hgi
   have hrow := hvr i hi (by omega)
   obtain ⟨n, hn⟩ : ∃ n, d.names[i]'(by omega) = n := ⟨_, rfl⟩
   rw [hn] at hrow
   obtain ⟨hv, hhv⟩ : ∃ hv, vals[i] = hv := ⟨_, rfl⟩
   rw [hhv] at hgi' hrow
   repeat refine c_r ?_
   refine rq ?_; intro gd K hgd hK
   try simp (disch := first | omega | assumption | rfl) only [↓reduceIte, go_sem, Nat.reduceLT, Nat.reduceEqDiff, Nat.reduceSub, h3, h1, q1, Nat.zero_add, hi0, hi1, hgi']
   refine Fn.mono (Few_ok A hv n (hrow.ext (hE0.trans (hE1.trans hEA)))) ?_
   rintro _ A2 ⟨rfl, hA2⟩
   try simp (disch := first | omega | assumption | rfl) only [↓reduceIte, go_sem, Nat.reduceLT, Nat.reduceEqDiff, Nat.reduceSub]
   refine hK _ _ ?_; clear hK hgd; clear K; try clear gd
   repeat refine c_r ?_
   refine W_cond (t := !few n) (vr0) ?_ ?_
   ·intro _
    repeat refine c_r ?_
    refine rg0 ?_
    repeat refine c_r ?_
    exact ⟨rfl, hEA.trans hA2, .inr ⟨rfl, vq0⟩⟩
   ·intro hfn
    repeat refine c_r ?_
    refine rg2 h3 hi1' ?_
    repeat refine c_r ?_
    refine ⟨m - 1, by omega, rfl, i + 1, by omega, vq0, (vq1 h1), hEA.trans hA2, fun j hj hji => ?_⟩
    by_cases hj2 : j = i
    ·subst hj2; rw [hn]; simpa using hfn
    ·exact hlow j hj (by omega)
  ·intro hge
   simp only [decide_eq_false_iff_not] at hge
   repeat refine c_r ?_
   refine ⟨rfl, hEA, .inl ⟨rfl, (vq1 h1), fun n hn => ?_⟩⟩
   obtain ⟨j, hj, rfl⟩ := List.getElem_of_mem hn
   exact hlow j hj (by omega)
 clear h1
 rintro e σ4 _ A ⟨rfl, hEA, ⟨rfl, h1, hall⟩ | ⟨rfl, h2⟩⟩
 rotate_left
 ·repeat refine c_r ?_
  refine rt1 h2 Tryz.ntmps172 ?_
  exact ⟨hE1.trans hEA, false, rfl, fun h => by cases h⟩
 have q3 := cellO_ext hEA p3
 repeat refine c_r ?_
 refine rg0 ?_
 repeat refine c_r ?_
 refine W_mono (Q := fun e σ' ds' v' => ds' = [] ∧ v' = A ∧ ((e = .exit 2 ∧ σ' 1 = .pointer (some ⟨w.heap.size, 0, Option.none⟩) ∧ ∀ l ∈ d.texts, l.length ≤ 300) ∨ (e = .ret ∧ σ' 2 = .bool false))) ?_ ?_
 ·refine W_loop (fun m σ ds B => ds = [] ∧ ∃ (i : Nat), i + m = d.texts.length ∧ σ 4 = vi i ∧ σ 1 = .pointer (some ⟨w.heap.size, 0, Option.none⟩) ∧ B = A ∧ ∀ j (h : j < d.texts.length), j < i → d.texts[j].length ≤ 300) d.texts.length ?_ ?_
  ·exact ⟨rfl, 0, by omega, vr0, (vq1 h1), rfl, fun j h hj => absurd hj (by omega)⟩
  clear h1
  rintro m σ ds B ⟨rfl, i, him, h4, h1, hB2, hlow⟩
  rw [hB2]
  clear hB2 B
  repeat refine c_r ?_
  refine rg4 h4 h1 q3 Nat.zero_add ?_
  repeat refine c_r ?_
  refine wc0 ?_ ?_
  ·intro hlt
   simp only [decide_eq_true_eq] at hlt
   have hi : i < d.texts.length := by omega
   have hi0 : (0 : Int) ≤ (i : Int) := by omega
   have hi1 : (i : Int) < (d.texts.length : Int) := by omega
   have hi1' : (i : Int) + 1 = ((i + 1 : Nat) : Int) := by push_cast; rfl
   have hgi := hgt i hi
   obtain ⟨xT, rfl⟩ := Option.isSome_iff_exists.1 (some_of_cellO hgi)
   have hgi' := cellO_ext (hE0.trans (hE1.trans hEA)) hgi
   rw [List.getElem_map] at hgi'
   repeat refine c_r ?_
   refine rg7 h4 h1 q3 Nat.zero_add hi0 hi1 hgi' ?_
   repeat refine c_r ?_
   refine wc0 ?_ ?_
   ·intro hgt2
    repeat refine c_r ?_
    refine rg0 ?_
    repeat refine c_r ?_
    exact ⟨rfl, rfl, .inr ⟨rfl, vq0⟩⟩
   ·intro hgt2
    simp only [decide_eq_false_iff_not] at hgt2
    repeat refine c_r ?_
    refine rg2 h4 hi1' ?_
    repeat refine c_r ?_
    refine ⟨m - 1, by omega, rfl, i + 1, by omega, vq0, (vq1 h1), rfl, fun j hj hji => ?_⟩
    by_cases hj2 : j = i
    ·subst hj2; omega
    ·exact hlow j hj (by omega)
  ·intro hge
   simp only [decide_eq_false_iff_not] at hge
   repeat refine c_r ?_
   refine ⟨rfl, rfl, .inl ⟨rfl, (vq1 h1), fun l hl => ?_⟩⟩
   obtain ⟨j, hj, rfl⟩ := List.getElem_of_mem hl
   exact hlow j hj (by omega)
 clear h1
 rintro e σ6 _ v1 ⟨rfl, hv1, ⟨rfl, h1, htl⟩ | ⟨rfl, h2⟩⟩
 rotate_left
 ·rw [hv1]
  repeat refine c_r ?_
  refine rt1 h2 Tryz.ntmps172 ?_
  exact ⟨hE1.trans hEA, false, rfl, fun h => by cases h⟩
 rw [hv1]
 clear hv1 v1
 repeat (first | refine c_r ?_ | refine rg0 ?_)
 refine rt0 Tryz.ntmps172 ?_
 exact ⟨hE1.trans hEA, true, rfl, fun _ => ⟨fun n hn => few_f (hall n hn), by omega, by omega, by omega, fun l hl => by have := htl l hl; omega, by omega⟩⟩
set_option maxHeartbeats 1000000 in
theorem RsFew_ok {w0 w : World} (hE0 : Ext w0 w) {lv : Value} {R : List RecL} (hl : Rows 7 (RecAt w0) w lv R) :
  Fn Tryz.prog 121 #[lv] w (fun v w' => Ext w w' ∧ ∃ b : Bool, v = .bool b ∧ (b = true → R.length ≤ 60 ∧ ∀ r ∈ R, few r.owner = true ∧ DatF r.dat)) := by
 obtain ⟨aR, cR, rfl, hcR, hgR⟩ := hl.open
 refine enter Tryz.func121 Tryz.ntmps121 rfl rfl ?_
 repeat refine c_r ?_
 refine rg0 ?_
 repeat refine c_r ?_
 refine rg0 ?_
 repeat refine c_r ?_
 refine wc0 ?_ ?_
 ·intro _
  repeat (first | refine c_r ?_ | refine rg0 ?_)
  refine rt0 Tryz.ntmps121 ?_
  exact ⟨Keep.refl _ _, false, rfl, fun h => by cases h⟩
 intro h60
 simp only [decide_eq_false_iff_not] at h60
 repeat refine c_r ?_
 refine rg0 ?_
 repeat refine c_r ?_
 refine W_loop (fun m σ ds A => ds = [] ∧ ∃ (i : Nat), i + m = R.length ∧ σ 3 = vi i ∧ σ 0 = .slice aR R.length cR ∧ Ext w A ∧ ∀ j (h : j < R.length), j < i → few R[j].owner = true ∧ DatF R[j].dat) R.length ?_ ?_
 ·exact ⟨rfl, 0, by omega, vr0, vq0, Keep.refl _ _, fun j h hj => absurd hj (by omega)⟩
 rintro m σ ds A ⟨rfl, i, him, h3, h0, hEA, hlow⟩
 repeat refine c_r ?_
 refine rg2 h3 h0 ?_
 repeat refine c_r ?_
 refine wc0 ?_ ?_
 ·intro hlt
  simp only [decide_eq_true_eq] at hlt
  have hi : i < R.length := by omega
  have hi0 : (0 : Int) ≤ (i : Int) := by omega
  have hi1 : (i : Int) < (R.length : Int) := by omega
  have hi1' : (i : Int) + 1 = ((i + 1 : Nat) : Int) := by push_cast; rfl
  obtain ⟨cr, hcr, hRr⟩ := hgR i hi
  obtain ⟨r, hr⟩ : ∃ r, R[i] = r := ⟨_, rfl⟩
  rw [hr] at hRr
  obtain ⟨ow, dsc, hcrE, o1, o2, g0, g1, g2, gd⟩ := hRr.cells
  obtain ⟨xR, rfl⟩ := Option.isSome_iff_exists.1 (cellsO_some hcr)
  obtain ⟨xi, hxi⟩ : ∃ xi, adr (some xR) (i * 7) = some xi := ⟨_, rfl⟩
  rw [hxi] at hcr
  obtain ⟨xd, hxd⟩ : ∃ xd, adr (some xi) 2 = some xd := ⟨_, rfl⟩
  have rc : ∀ {x}, Ext w x → cellO x (some xi) = some ow ∧ cellsO x (some xd) 5 = some dsc := fun {x} hx => by
   have hcx := cellsO_ext hx hcr
   have e0 := cell_of_cells hcx g0
   have e5 := cells_drop (m := 2) (k := 5) hcx
   rw [adr_zero] at e0
   rw [hxd, gd] at e5
   exact ⟨e0, e5⟩
  obtain ⟨c0, _⟩ := rc hEA
  have hwA := hE0.trans hEA
  repeat refine c_r ?_
  refine W_mono (Q := fun e σ' ds' v' => e = .normal ∧ ds' = [] ∧ σ' 3 = vi i ∧ σ' 0 = .slice (some xR) R.length cR ∧ Ext A v' ∧ ∃ bb, σ' 28 = .bool bb ∧ (bb = false → few r.owner = true ∧ DatF r.dat)) ?_ ?_
  ·cases hf : few r.owner with
   | false =>
    refine rq ?_; intro gd K hgd hK
    have hg7 : ∀ n σ b, wantV gd n σ (some (7, b)) = boolIs (ev n σ (.tmp 20)) b := (fun n σ b => by rw [wantV_some, show gd 7 = some 20 from (by rw [hgd]; rfl)]; rfl)
    try simp (disch := first | omega | assumption | rfl) only [↓reduceIte, go_sem, Nat.reduceLT, Nat.reduceEqDiff, Nat.reduceSub, h0, h3, hi0, hi1, hxi, c0, adr_zero]
    refine Fn.mono (Few_ok A ow r.owner (o1.ext hwA)) ?_
    rintro _ A2 ⟨rfl, hA2⟩
    rw [hf]
    try simp (disch := first | omega | assumption | rfl) only [↓reduceIte, go_sem, Nat.reduceLT, Nat.reduceEqDiff, Nat.reduceSub, Bool.not_false, ↓hg7]
    refine hK _ _ ?_; clear hK hgd; clear K; try clear gd
    exact ⟨rfl, rfl, (vq1 h3), (vq1 h0), hA2, _, vr0, fun h => by cases h⟩
   | true =>
    refine rq ?_; intro gd K hgd hK
    have hg7 : ∀ n σ b, wantV gd n σ (some (7, b)) = boolIs (ev n σ (.tmp 20)) b := (fun n σ b => by rw [wantV_some, show gd 7 = some 20 from (by rw [hgd]; rfl)]; rfl)
    try simp (disch := first | omega | assumption | rfl) only [↓reduceIte, go_sem, Nat.reduceLT, Nat.reduceEqDiff, Nat.reduceSub, h0, h3, hi0, hi1, hxi, c0, adr_zero]
    refine Fn.mono (Few_ok A ow r.owner (o1.ext hwA)) ?_
    rintro _ A2 ⟨rfl, hA2⟩
    rw [hf]
    obtain ⟨_, c5⟩ := rc (hEA.trans hA2)
    try simp (disch := first | omega | assumption | rfl) only [↓reduceIte, go_sem, Nat.reduceLT, Nat.reduceEqDiff, Nat.reduceSub, h0, h3, hi0, hi1, hxi, hxd, c5, Bool.not_true, ↓hg7]
    refine Fn.mono (DFew_ok (hwA.trans hA2) o2) ?_
    rintro _ A3 ⟨hA3, b, rfl, hb⟩
    try simp (disch := first | omega | assumption | rfl) only [↓reduceIte, go_sem, Nat.reduceLT, Nat.reduceEqDiff, Nat.reduceSub, ↓hg7]
    refine hK _ _ ?_; clear hK hgd; clear K; try clear gd
    exact ⟨rfl, rfl, (vq1 h3), (vq1 h0), hA2.trans hA3, _, vr0, fun h => ⟨rfl, hb (by simpa using h)⟩⟩
  clear h3 h0
  rintro _ σ1 _ A1 ⟨rfl, rfl, h3, h0, hA1, bb, h28, hbb⟩
  repeat refine c_r ?_
  refine W_cond (t := bb) ((vq1 h28)) ?_ ?_
  ·intro _
   repeat (first | refine c_r ?_ | refine rg0 ?_)
   refine rt0 Tryz.ntmps121 ?_
   exact ⟨hEA.trans hA1, false, rfl, fun h => by cases h⟩
  ·intro ht
   repeat refine c_r ?_
   refine rg2 h3 hi1' ?_
   repeat refine c_r ?_
   refine ⟨m - 1, by omega, rfl, i + 1, by omega, vq0, (vq1 h0), hEA.trans hA1, fun j hj hji => ?_⟩
   by_cases hj2 : j = i
   ·subst hj2; rw [hr]; exact hbb ht
   ·exact hlow j hj (by omega)
 ·intro hge
  simp only [decide_eq_false_iff_not] at hge
  repeat (first | refine c_r ?_ | refine rg0 ?_)
  refine rt0 Tryz.ntmps121 ?_
  refine ⟨hEA, true, rfl, fun _ => ⟨by omega, fun r hr => ?_⟩⟩
  obtain ⟨j, hj, rfl⟩ := List.getElem_of_mem hr
  exact hlow j hj (by omega)
structure GoodRs (R : List RecL) : Prop where
 len : R.length ≤ 60
 few : ∀ r ∈ R, few r.owner = true ∧ DatF r.dat
 own : ∀ r ∈ R, checkN r.owner = 0
 names : ∀ r ∈ R, ∀ n ∈ r.dat.names, checkN n = 0
 lead : ∀ r ∈ R, leadT r.dat.ty → r.dat.names.length = 1
set_option maxHeartbeats 1000000 in
theorem RsGood_ok {w0 w : World} (hE0 : Ext w0 w) {lv : Value} {R : List RecL} (hl : Rows 7 (RecAt w0) w lv R) :
  Fn Tryz.prog 55 #[lv] w (fun v w' => Ext w w' ∧ ∃ b : Bool, v = .bool b ∧ (b = true → GoodRs R)) := by
 obtain ⟨aR, cR, rfl, hcR, hgR⟩ := hl.open
 refine enter Tryz.func55 Tryz.ntmps55 rfl rfl ?_
 repeat refine c_r ?_
 refine rg0 ?_
 repeat refine c_r ?_
 refine rq ?_; intro gd K hgd hK
 try simp (disch := first | omega | assumption | rfl) only [↓reduceIte, go_sem, Nat.reduceLT, Nat.reduceEqDiff, Nat.reduceSub]
 refine Fn.mono (RsFew_ok hE0 hl) ?_
 rintro _ w1 ⟨hE1, b, rfl, hb⟩
 try simp (disch := first | omega | assumption | rfl) only [↓reduceIte, go_sem, Nat.reduceLT, Nat.reduceEqDiff, Nat.reduceSub]
 refine hK _ _ ?_; clear hK hgd; clear K; try clear gd
 repeat refine c_r ?_
 refine W_cond (t := !b) (vr0) ?_ ?_
 ·intro _
  repeat (first | refine c_r ?_ | refine rg0 ?_)
  refine rt0 Tryz.ntmps55 ?_
  exact ⟨hE1, false, rfl, fun h => by cases h⟩
 intro hb2
 obtain ⟨hRl, hRf⟩ := hb (by simpa using hb2)
 repeat refine c_r ?_
 refine rg0 ?_
 repeat refine c_r ?_
 refine W_loop (fun m σ ds A => ds = [] ∧ ∃ (i : Nat), i + m = R.length ∧ σ 3 = vi i ∧ σ 0 = .slice aR R.length cR ∧ Ext w A ∧ ∀ j (h : j < R.length), j < i → checkN R[j].owner = 0 ∧ (∀ n ∈ R[j].dat.names, checkN n = 0) ∧ (leadT R[j].dat.ty → R[j].dat.names.length = 1)) R.length ?_ ?_
 ·exact ⟨rfl, 0, by omega, vr0, vq0, hE1, fun j h hj => absurd hj (by omega)⟩
 rintro m σ ds A ⟨rfl, i, him, h3, h0, hEA, hlow⟩
 repeat refine c_r ?_
 refine rg2 h3 h0 ?_
 repeat refine c_r ?_
 refine wc0 ?_ ?_
 ·intro hlt
  simp only [decide_eq_true_eq] at hlt
  have hi : i < R.length := by omega
  have hi0 : (0 : Int) ≤ (i : Int) := by omega
  have hi1 : (i : Int) < (R.length : Int) := by omega
  have hi1' : (i : Int) + 1 = ((i + 1 : Nat) : Int) := by push_cast; rfl
  obtain ⟨cr, hcr, hRr⟩ := hgR i hi
  obtain ⟨r, hr⟩ : ∃ r, R[i] = r := ⟨_, rfl⟩
  rw [hr] at hRr
  obtain ⟨f1, f2⟩ := hRf r (hr ▸ List.getElem_mem hi)
  obtain ⟨xR, rfl⟩ := Option.isSome_iff_exists.1 (cellsO_some hcr)
  obtain ⟨xi, hxi⟩ : ∃ xi, adr (some xR) (i * 7) = some xi := ⟨_, rfl⟩
  rw [hxi] at hcr
  have hcA := cellsO_ext hEA hcr
  have hwA := hE0.trans hEA
  repeat refine c_r ?_
  refine rq ?_; intro gd K hgd hK
  try simp (disch := first | omega | assumption | rfl) only [↓reduceIte, go_sem, Nat.reduceLT, Nat.reduceEqDiff, Nat.reduceSub, h0, h3, hi0, hi1, hxi, hcA]
  refine Fn.mono (RcOf_ok hwA hRr f2.nn) ?_
  rintro _ A2 ⟨hA2, cs', nm', rfl, hx⟩
  try simp (disch := first | omega | assumption | rfl) only [↓reduceIte, go_sem, Nat.reduceLT, Nat.reduceEqDiff, Nat.reduceSub]
  refine Fn.mono (RCheckRec_ok (Keep.refl _ A2) (hx.at (hwA.trans hA2)) f2 (few_f f1)) ?_
  rintro _ A3 ⟨hA3, e, rfl, he⟩
  try simp (disch := first | omega | assumption | rfl) only [↓reduceIte, go_sem, Nat.reduceLT, Nat.reduceEqDiff, Nat.reduceSub]
  refine hK _ _ ?_; clear hK hgd; clear K; try clear gd
  repeat refine c_r ?_
  by_cases h0e : e = 0
  ·refine W_cond (t := !decide (e = 0)) (vr0) (fun h => by rw [decide_eq_true h0e] at h; cases h) ?_
   intro _
   repeat refine c_r ?_
   refine rg2 h3 hi1' ?_
   repeat refine c_r ?_
   refine ⟨m - 1, by omega, rfl, i + 1, by omega, vq0, (vq1 h0), hEA.trans (hA2.trans hA3), fun j hj hji => ?_⟩
   by_cases hj2 : j = i
   ·subst hj2; rw [hr]; exact he h0e
   ·exact hlow j hj (by omega)
  ·refine W_cond (t := !decide (e = 0)) (vr0) ?_ (fun h => by rw [decide_eq_false h0e] at h; cases h)
   intro _
   repeat (first | refine c_r ?_ | refine rg0 ?_)
   refine rt0 Tryz.ntmps55 ?_
   exact ⟨hEA.trans (hA2.trans hA3), false, rfl, fun h => by cases h⟩
 ·intro hge
  simp only [decide_eq_false_iff_not] at hge
  repeat (first | refine c_r ?_ | refine rg0 ?_)
  refine rt0 Tryz.ntmps55 ?_
  have hall : ∀ r ∈ R, checkN r.owner = 0 ∧ (∀ n ∈ r.dat.names, checkN n = 0) ∧ (leadT r.dat.ty → r.dat.names.length = 1) := fun r hr => by
   obtain ⟨j, hj, rfl⟩ := List.getElem_of_mem hr
   exact hlow j hj (by omega)
  exact ⟨hEA, true, rfl, fun _ => ⟨hRl, hRf, fun r hr => (hall r hr).1, fun r hr => (hall r hr).2.1, fun r hr => (hall r hr).2.2⟩⟩
theorem ZGood_ok {w0 w : World} (hE0 : Ext w0 w) {ov lv : Value} {o : Nm} {R : List RecL} (ho : Row w ov (o.map vs)) (hl : Rows 7 (RecAt w0) w lv R) :
  Fn Tryz.prog 16 #[ov, lv] w (fun v w' => Ext w w' ∧ ∃ b : Bool, v = .bool b ∧ (b = true → goodN o = true ∧ GoodRs R)) := by
 refine enter Tryz.func16 Tryz.ntmps16 rfl rfl ?_
 repeat refine c_r ?_
 refine rg0 ?_
 repeat refine c_r ?_
 cases hg : goodN o with
 | false =>
  refine rq ?_; intro gd K hgd hK
  have hg2 : ∀ n σ b, wantV gd n σ (some (2, b)) = boolIs (ev n σ (.tmp 7)) b := (fun n σ b => by rw [wantV_some, show gd 2 = some 7 from (by rw [hgd]; rfl)]; rfl)
  try simp (disch := first | omega | assumption | rfl) only [↓reduceIte, go_sem, Nat.reduceLT, Nat.reduceEqDiff, Nat.reduceSub]
  refine Fn.mono (NGood_ok w ov o ho) ?_
  rintro _ w1 ⟨rfl, hE1⟩
  rw [hg]
  try simp (disch := first | omega | assumption | rfl) only [↓reduceIte, go_sem, Nat.reduceLT, Nat.reduceEqDiff, Nat.reduceSub, ↓hg2]
  refine hK _ _ ?_; clear hK hgd; clear K; try clear gd
  repeat refine c_r ?_
  refine rt0 Tryz.ntmps16 ?_
  exact ⟨hE1, false, rfl, fun h => by cases h⟩
 | true =>
  refine rq ?_; intro gd K hgd hK
  have hg2 : ∀ n σ b, wantV gd n σ (some (2, b)) = boolIs (ev n σ (.tmp 7)) b := (fun n σ b => by rw [wantV_some, show gd 2 = some 7 from (by rw [hgd]; rfl)]; rfl)
  try simp (disch := first | omega | assumption | rfl) only [↓reduceIte, go_sem, Nat.reduceLT, Nat.reduceEqDiff, Nat.reduceSub]
  refine Fn.mono (NGood_ok w ov o ho) ?_
  rintro _ w1 ⟨rfl, hE1⟩
  rw [hg]
  try simp (disch := first | omega | assumption | rfl) only [↓reduceIte, go_sem, Nat.reduceLT, Nat.reduceEqDiff, Nat.reduceSub, ↓hg2]
  refine Fn.mono (RsGood_ok (hE0.trans hE1) (hl.ext hE1)) ?_
  rintro _ w2 ⟨hE2, b, rfl, hb⟩
  try simp (disch := first | omega | assumption | rfl) only [↓reduceIte, go_sem, Nat.reduceLT, Nat.reduceEqDiff, Nat.reduceSub, ↓hg2]
  refine hK _ _ ?_; clear hK hgd; clear K; try clear gd
  repeat refine c_r ?_
  refine rt0 Tryz.ntmps16 ?_
  exact ⟨hE1.trans hE2, b, rfl, fun h => ⟨rfl, hb h⟩⟩
section
variable {A B C D E F G H I : Prop}
theorem an2 (a : A) (b : B) : A ∧ B := ⟨a, b⟩
theorem an3 (a : A) (b : B) (c : C) : A ∧ B ∧ C := ⟨a, b, c⟩
theorem an4 (a : A) (b : B) (c : C) (d : D) : A ∧ B ∧ C ∧ D := ⟨a, b, c, d⟩
theorem an5 (a : A) (b : B) (c : C) (d : D) (e : E) : A ∧ B ∧ C ∧ D ∧ E := ⟨a, b, c, d, e⟩
theorem an6 (a : A) (b : B) (c : C) (d : D) (e : E) (f : F) : A ∧ B ∧ C ∧ D ∧ E ∧ F := ⟨a, b, c, d, e, f⟩
theorem an7 (a : A) (b : B) (c : C) (d : D) (e : E) (f : F) (g : G) : A ∧ B ∧ C ∧ D ∧ E ∧ F ∧ G := ⟨a, b, c, d, e, f, g⟩
theorem an8 (a : A) (b : B) (c : C) (d : D) (e : E) (f : F) (g : G) (h : H) : A ∧ B ∧ C ∧ D ∧ E ∧ F ∧ G ∧ H := ⟨a, b, c, d, e, f, g, h⟩
theorem an9 (a : A) (b : B) (c : C) (d : D) (e : E) (f : F) (g : G) (h : H) (i : I) : A ∧ B ∧ C ∧ D ∧ E ∧ F ∧ G ∧ H ∧ I := ⟨a, b, c, d, e, f, g, h, i⟩
end
def gdOk : List (Nat × Nat) → (Nat → Option Tmp) → Prop
 | [], _ => True
 | p :: l, gd => gd p.1 = some p.2 ∧ gdOk l gd
theorem gdOk_of {L : List Oper} : ∀ {gs : List (Nat × Nat)}, (gs.all fun p => dstL L p.1 == some p.2) = true → gdOk gs (dstL L)
 | [], _ => trivial
 | p :: l, h => by
  simp only [List.all_cons, Bool.and_eq_true, beq_iff_eq] at h
  exact ⟨h.1, gdOk_of h.2⟩
theorem bi_un (b : Bool) : boolIs undef b = false := nr rfl
def Rest (P : Program) (Q : Post) (ds : List Deferred) (L : List Oper) (F : (Nat → Option Tmp) → (Sto → World → Prop) → Prop) : Prop :=
 ∀ (gd : Nat → Option Tmp) (K : Sto → World → Prop), gd = dstL L → (∀ σ' w', Q .normal σ' ds w' → K σ' w') → F gd K
section
variable {P : Program} {r : Option Nat} {n : Nat} {Q : Post} {σ : Sto} {ds : List Deferred} {w : World} {p : Prop} {L : List Oper} {F : (Nat → Option Tmp) → (Sto → World → Prop) → Prop}
theorem wt {c : Operand} {x y : Code} (h : p) (ht : W P r n x Q σ ds w) (hc : p → ev n σ c = .bool true := by intro h1; first | (simp only [↓reduceIte, go_sem, Nat.reduceLT, Nat.reduceEqDiff, Nat.reduceSub, h1]; done) | (simp only [↓reduceIte, go_sem, Nat.reduceLT, Nat.reduceEqDiff, Nat.reduceSub, h1]; rfl)) : W P r n (.cond c x y) Q σ ds w := W_cond (hc h) (fun _ => ht) (fun h => by cases h)
theorem wf {c : Operand} {x y : Code} (h : p) (ht : W P r n y Q σ ds w) (hc : p → ev n σ c = .bool false := by intro h1; first | (simp only [↓reduceIte, go_sem, Nat.reduceLT, Nat.reduceEqDiff, Nat.reduceSub, h1]; done) | (simp only [↓reduceIte, go_sem, Nat.reduceLT, Nat.reduceEqDiff, Nat.reduceSub, h1]; rfl)) : W P r n (.cond c x y) Q σ ds w := W_cond (hc h) (fun h => by cases h) (fun _ => ht)
theorem ro {id : Nat} {ops : Array Oper} (h : Rest P Q ds ops.toList (fun gd K => opsV P gd n ops.toList σ w K)) (hd : noDefer ops = true := by rfl) : W P r n (.region id ops false) Q σ ds w := W_reg hd fun gd K hgd hK => h gd K hgd hK
theorem rd {f : FuncId} {args : Array Value} {w1 : World} {R : Value → World → Prop} {C : (Nat → Option Tmp) → (Sto → World → Prop) → Value → World → Prop} (h : p) (hF : Fn P f args w1 R) (hr : ∀ v w', R v w' → Rest P Q ds L (fun gd K => C gd K v w'))
  (hs : p → ∀ (gd : Nat → Option Tmp) (K : Sto → World → Prop), F gd K = Fn P f args w1 (fun v w' => C gd K v w') := by intro h1 gd K; (simp (disch := first | omega | assumption | rfl) only [↓reduceIte, go_sem, Nat.reduceLT, Nat.reduceEqDiff, Nat.reduceSub, h1]) <;> exact rfl) : Rest P Q ds L F :=
 fun gd K hgd hK => (hs h gd K).mpr (Fn.mono hF fun v w' hR => hr v w' hR gd K hgd hK)
theorem rc {id : Nat} {ops : Array Oper} {f : FuncId} {args : Array Value} {w1 : World} {R : Value → World → Prop} {C : (Nat → Option Tmp) → (Sto → World → Prop) → Value → World → Prop} (h : p) (hF : Fn P f args w1 R) (hr : ∀ v w', R v w' → Rest P Q ds ops.toList (fun gd K => C gd K v w'))
  (hs : p → ∀ (gd : Nat → Option Tmp) (K : Sto → World → Prop), opsV P gd n ops.toList σ w K = Fn P f args w1 (fun v w' => C gd K v w') := by intro h1 gd K; (simp (disch := first | omega | assumption | rfl) only [↓reduceIte, go_sem, Nat.reduceLT, Nat.reduceEqDiff, Nat.reduceSub, h1]) <;> exact rfl)
  (hd : noDefer ops = true := by rfl) : W P r n (.region id ops false) Q σ ds w := ro (rd h hF hr hs) hd
theorem re {σ1 : Sto} {w1 : World} (h : p) (hq : Q .normal σ1 ds w1)
  (hs : p → ∀ (gd : Nat → Option Tmp) (K : Sto → World → Prop), F gd K = K σ1 w1 := by intro h1 gd K; (first | (simp (disch := first | omega | assumption | rfl) only [↓reduceIte, go_sem, Nat.reduceLT, Nat.reduceEqDiff, Nat.reduceSub, h1]) | skip) <;> exact rfl) : Rest P Q ds L F :=
 fun gd K _ hK => (hs h gd K).mpr (hK _ _ hq)
theorem rdg (gs : List (Nat × Nat)) {f : FuncId} {args : Array Value} {w1 : World} {R : Value → World → Prop} {C : (Nat → Option Tmp) → (Sto → World → Prop) → Value → World → Prop} (h : p) (hF : Fn P f args w1 R) (hr : ∀ v w', R v w' → Rest P Q ds L (fun gd K => C gd K v w'))
  (hs : p → ∀ (gd : Nat → Option Tmp) (K : Sto → World → Prop), gdOk gs gd → F gd K = Fn P f args w1 (fun v w' => C gd K v w') := by intro h1 gd K hg; simp only [gdOk] at hg; (simp (disch := first | omega | assumption | rfl) only [↓reduceIte, go_sem, Nat.reduceLT, Nat.reduceEqDiff, Nat.reduceSub, wantV_some, wantO_some, bi_un, hg, h1]) <;> exact rfl)
  (hg : (gs.all fun p => dstL L p.1 == some p.2) = true := by exact rfl) : Rest P Q ds L F :=
 fun gd K hgd hK => (hs h gd K (hgd ▸ gdOk_of hg)).mpr (Fn.mono hF fun v w' hR => hr v w' hR gd K hgd hK)
theorem rcg (gs : List (Nat × Nat)) {id : Nat} {ops : Array Oper} {f : FuncId} {args : Array Value} {w1 : World} {R : Value → World → Prop} {C : (Nat → Option Tmp) → (Sto → World → Prop) → Value → World → Prop} (h : p) (hF : Fn P f args w1 R) (hr : ∀ v w', R v w' → Rest P Q ds ops.toList (fun gd K => C gd K v w'))
  (hs : p → ∀ (gd : Nat → Option Tmp) (K : Sto → World → Prop), gdOk gs gd → opsV P gd n ops.toList σ w K = Fn P f args w1 (fun v w' => C gd K v w') := by intro h1 gd K hg; simp only [gdOk] at hg; (simp (disch := first | omega | assumption | rfl) only [↓reduceIte, go_sem, Nat.reduceLT, Nat.reduceEqDiff, Nat.reduceSub, wantV_some, wantO_some, bi_un, hg, h1]) <;> exact rfl)
  (hg : (gs.all fun p => dstL ops.toList p.1 == some p.2) = true := by exact rfl) (hd : noDefer ops = true := by rfl) : W P r n (.region id ops false) Q σ ds w := ro (rdg gs h hF hr hs hg) hd
theorem reg (gs : List (Nat × Nat)) {σ1 : Sto} {w1 : World} (h : p) (hq : Q .normal σ1 ds w1)
  (hs : p → ∀ (gd : Nat → Option Tmp) (K : Sto → World → Prop), gdOk gs gd → F gd K = K σ1 w1 := by intro h1 gd K hg; simp only [gdOk] at hg; (first | (simp (disch := first | omega | assumption | rfl) only [↓reduceIte, go_sem, Nat.reduceLT, Nat.reduceEqDiff, Nat.reduceSub, wantV_some, wantO_some, bi_un, hg, h1]) | skip) <;> exact rfl)
  (hg : (gs.all fun p => dstL L p.1 == some p.2) = true := by exact rfl) : Rest P Q ds L F :=
 fun gd K hgd hK => (hs h gd K (hgd ▸ gdOk_of hg)).mpr (hK _ _ hq)
theorem rgg (gs : List (Nat × Nat)) {id : Nat} {ops : Array Oper} {σ1 : Sto} {w1 : World} (h : p) (hq : Q .normal σ1 ds w1)
  (hs : p → ∀ (gd : Nat → Option Tmp) (K : Sto → World → Prop), gdOk gs gd → opsV P gd n ops.toList σ w K = K σ1 w1 := by intro h1 gd K hg; simp only [gdOk] at hg; (simp (disch := first | omega | assumption | rfl) only [↓reduceIte, go_sem, Nat.reduceLT, Nat.reduceEqDiff, Nat.reduceSub, wantV_some, wantO_some, bi_un, hg, h1]) <;> exact rfl)
  (hg : (gs.all fun p => dstL ops.toList p.1 == some p.2) = true := by exact rfl) (hd : noDefer ops = true := by rfl) : W P r n (.region id ops false) Q σ ds w := ro (reg gs h hq hs hg) hd
end
theorem list_step {α : Type} {xs ys : List α} {i : Nat} (h1 : i < xs.length) (h2 : i < ys.length) (ht : xs.take i = ys.take i) (he : xs[i] = ys[i]) : xs.take (i + 1) = ys.take (i + 1) := by
 rw [take_succ' h1, take_succ' h2, ht, he]
theorem Is2_ok (w : World) {a b : Value} {xs ys : List Lab} (ha : Row w a (xs.map vs)) (hb : Row w b (ys.map vs)) (hl : xs.length ≤ 1000000000000000) :
  Fn Tryz.prog 149 #[a, b] w (fun v w' => Ext w w' ∧ ∃ t, v = .bool t ∧ (t = true → xs = ys)) := by
 obtain ⟨a1, c1, rfl, _, h1⟩ := ha
 obtain ⟨a2, c2, rfl, _, h2⟩ := hb
 simp only [List.length_map, List.getElem_map] at h1 h2 ⊢
 refine enter Tryz.func149 Tryz.ntmps149 rfl rfl ?_
 repeat refine c_r ?_
 refine rg0 ?_
 repeat refine c_r ?_
 by_cases hn : (xs.length : Int) = (ys.length : Int)
 rotate_left
 ·refine rg1 (decide_eq_false hn) ?_
  repeat refine c_r ?_
  refine wt Bool.not_false ?_
  repeat (first | refine c_r ?_ | refine rg0 ?_)
  refine rt0 Tryz.ntmps149 ?_
  exact ⟨Keep.refl _ _, _, rfl, fun h => by cases h⟩
 refine rg1 (decide_eq_true hn) ?_
 repeat refine c_r ?_
 refine wf Bool.not_true ?_
 have hn' : xs.length = ys.length := by omega
 repeat refine c_r ?_
 refine rg0 ?_
 repeat refine c_r ?_
 refine W_loop (fun m σ ds A => ds = [] ∧ ∃ (i : Nat), i + m = xs.length ∧ σ 5 = vi i ∧ σ 0 = .slice a1 xs.length c1 ∧ σ 1 = .slice a2 ys.length c2 ∧ Ext w A ∧ xs.take i = ys.take i) xs.length ?_ ?_
 ·exact ⟨rfl, 0, by omega, vr0, vq0, vq0, Keep.refl _ _, rfl⟩
 rintro m σ ds A ⟨rfl, i, him, s5, s0, s1, hEA, ht⟩
 repeat refine c_r ?_
 refine rg2 s5 s0 ?_
 repeat refine c_r ?_
 refine wc0 ?_ ?_
 ·intro hlt
  simp only [decide_eq_true_eq] at hlt
  have hi : i < xs.length := by omega
  have hi2 : i < ys.length := by omega
  have hi0 : (0 : Int) ≤ (i : Int) := by omega
  have hi1 : (i : Int) < (ys.length : Int) := by omega
  have hi1' : (i : Int) + 1 = ((i + 1 : Nat) : Int) := by push_cast; rfl
  have g1 := h1 i hi
  have g2 := h2 i hi2
  obtain ⟨x1, rfl⟩ := Option.isSome_iff_exists.1 (some_of_cellO g1)
  obtain ⟨x2, rfl⟩ := Option.isSome_iff_exists.1 (some_of_cellO g2)
  repeat refine c_r ?_
  refine W_drw (fun _ => false) [(0, true), (1, true), (2, true), (3, true), (4, true), (5, true), (6, true), (7, true), (8, true)] NoS mixed (by kernel_rfl) ?_; intro gd K x hgd hx hxe hK; clear hxe
  have g1x := cellO_ext (hEA.trans hx) g1
  have g2x := cellO_ext (hEA.trans hx) g2
  simp (disch := first | omega | assumption | rfl) only [↓reduceIte, go_sem, Nat.reduceLT, Nat.reduceEqDiff, Nat.reduceSub, s5, s0, s1, hi0, hlt, hi1, g1x, g2x, Nat.mul_one]
  refine hK _ _ ?_; clear hK hgd; clear K; try clear gd
  by_cases he : xs[i] = ys[i]
  ·repeat refine c_r ?_
   refine wf (an2 (decide_eq_true he) Bool.not_true) ?_
   repeat refine c_r ?_
   refine rg2 s5 hi1' ?_
   repeat refine c_r ?_
   exact ⟨m - 1, by omega, rfl, i + 1, by omega, vq0, (vq1 s0), (vq1 s1), hEA.trans hx, list_step hi hi2 ht he⟩
  ·repeat refine c_r ?_
   refine wt (an2 (decide_eq_false he) Bool.not_false) ?_
   repeat (first | refine c_r ?_ | refine rg0 ?_)
   refine rt0 Tryz.ntmps149 ?_
   exact ⟨hEA.trans hx, _, rfl, fun h => by cases h⟩
 ·intro hge
  simp only [decide_eq_false_iff_not] at hge
  repeat (first | refine c_r ?_ | refine rg0 ?_)
  refine rt0 Tryz.ntmps149 ?_
  refine ⟨hEA, _, rfl, fun _ => ?_⟩
  rwa [List.take_of_length_le (by omega), List.take_of_length_le (by omega)] at ht
structure DatN (d : DatL) : Prop where
 nn : d.names.length ≤ 1000000000000000
 ns : ∀ n ∈ d.names, n.length ≤ 1000000000000000
 nu : d.nums.length ≤ 1000000000000000
 nt : d.texts.length ≤ 1000000000000000
theorem DatOk.n {d : DatL} (h : DatOk d) : DatN d := ⟨h.nn, fun n hn => (h.names n hn).2, h.nu, h.nt⟩
set_option maxHeartbeats 2000000 in
theorem Is4_ok (w : World) {ca cb : List Value} {a b : DatL} (ha : DatAt w ca a) (hb : DatAt w cb b) (ka : DatN a) :
  Fn Tryz.prog 150 #[.agg ca.toArray, .agg cb.toArray] w (fun v w' => Ext w w' ∧ ∃ t, v = .bool t ∧ (t = true → a = b)) := by
 obtain ⟨nm, nu, tx, rw1, rfl, hnm, hnu, htx, hrw⟩ := ha.ex
 obtain ⟨mm, mu, ux, rw2, rfl, hmm, hmu, hux, hrx⟩ := hb.ex
 obtain ⟨V1, ⟨a1, c1, rfl, _, ga⟩, lV1, hV1⟩ := hnm
 obtain ⟨V2, ⟨a2, c2, rfl, _, gb⟩, lV2, hV2⟩ := hmm
 obtain ⟨a3, c3, rfl, _, gc⟩ := hnu
 obtain ⟨a4, c4, rfl, _, gd4⟩ := hmu
 obtain ⟨a5, c5, htxe, _⟩ := id htx
 obtain ⟨a6, c6, huxe, _⟩ := id hux
 obtain ⟨a7, c7, rfl, _, gr⟩ := hrw
 obtain ⟨a8, c8, rfl, _, gs⟩ := hrx
 simp only [List.length_map, List.getElem_map] at gc gd4 gr gs htxe huxe ⊢
 refine enter Tryz.func150 Tryz.ntmps150 rfl rfl ?_
 repeat refine c_r ?_
 rw [htxe, huxe]
 refine rg0 ?_
 repeat refine c_r ?_
 rw [new_size]
 refine W_alloc2 ?_
 intro w1 hE1 hs1 hA hB
 have p0 : cellO w1 (some ⟨w.heap.size, 0, Option.none⟩) = some (vi a.ty) := cellO_at hA rfl
 have p1 : cellO w1 (some ⟨w.heap.size, 1, Option.none⟩) = some (.slice a1 V1.length c1) := cellO_at hA rfl
 have p2 : cellO w1 (some ⟨w.heap.size, 2, Option.none⟩) = some (.slice a3 a.nums.length c3) := cellO_at hA rfl
 have p3 : cellO w1 (some ⟨w.heap.size, 3, Option.none⟩) = some (.slice a5 a.texts.length c5) := cellO_at hA rfl
 have p4 : cellO w1 (some ⟨w.heap.size, 4, Option.none⟩) = some (.slice a7 a.raw.length c7) := cellO_at hA rfl
 have q0 : cellO w1 (some ⟨w.heap.size + 1, 0, Option.none⟩) = some (vi b.ty) := cellO_at hB rfl
 have q1 : cellO w1 (some ⟨w.heap.size + 1, 1, Option.none⟩) = some (.slice a2 V2.length c2) := cellO_at hB rfl
 have q2 : cellO w1 (some ⟨w.heap.size + 1, 2, Option.none⟩) = some (.slice a4 b.nums.length c4) := cellO_at hB rfl
 have q3 : cellO w1 (some ⟨w.heap.size + 1, 3, Option.none⟩) = some (.slice a6 b.texts.length c6) := cellO_at hB rfl
 have q4 : cellO w1 (some ⟨w.heap.size + 1, 4, Option.none⟩) = some (.slice a8 b.raw.length c8) := cellO_at hB rfl
 repeat refine c_r ?_
 refine W_mono (Q := fun e σ' ds' v' => e = .normal ∧ ds' = [] ∧ v' = w1 ∧ σ' 2 = .pointer (some ⟨w.heap.size, 0, Option.none⟩) ∧ σ' 3 = .pointer (some ⟨w.heap.size + 1, 0, Option.none⟩) ∧ ∃ t, σ' 47 = .bool t ∧ (t = false → a.ty = b.ty ∧ V1.length = V2.length ∧ a.nums.length = b.nums.length ∧ a.texts.length = b.texts.length ∧ a.raw = b.raw)) ?_ ?_
 ·by_cases e0 : a.ty = b.ty
  rotate_left
  ·refine rgg [(5, 12), (14, 21), (23, 30), (32, 39)] (an5 p0 q0 Nat.add_zero (decide_eq_false e0) Bool.not_false) ?_
   exact ⟨rfl, rfl, rfl, vq0, vq0, _, vr0, fun h => by cases h⟩
  by_cases e1 : (V1.length : Int) = (V2.length : Int)
  rotate_left
  ·refine rgg [(5, 12), (14, 21), (23, 30), (32, 39)] (an9 p0 q0 Nat.add_zero (decide_eq_true e0) Bool.not_true p1 q1 Nat.zero_add (decide_eq_false e1)) ?_
   exact ⟨rfl, rfl, rfl, vq0, vq0, _, vr0, fun h => by cases h⟩
  by_cases e2 : (a.nums.length : Int) = (b.nums.length : Int)
  rotate_left
  ·refine rgg [(5, 12), (14, 21), (23, 30), (32, 39)] (an4 (an9 p0 q0 Nat.add_zero (decide_eq_true e0) Bool.not_true p1 q1 Nat.zero_add (decide_eq_true e1)) p2 q2 (decide_eq_false e2)) ?_
   exact ⟨rfl, rfl, rfl, vq0, vq0, _, vr0, fun h => by cases h⟩
  by_cases e3 : (a.texts.length : Int) = (b.texts.length : Int)
  rotate_left
  ·refine rgg [(5, 12), (14, 21), (23, 30), (32, 39)] (an7 (an9 p0 q0 Nat.add_zero (decide_eq_true e0) Bool.not_true p1 q1 Nat.zero_add (decide_eq_true e1)) p2 q2 (decide_eq_true e2) p3 q3 (decide_eq_false e3)) ?_
   exact ⟨rfl, rfl, rfl, vq0, vq0, _, vr0, fun h => by cases h⟩
  refine rq ?_; intro gd K hgd hK
  have hg5 : ∀ n σ b, wantV gd n σ (some (5, b)) = boolIs (ev n σ (.tmp 12)) b := (fun n σ b => by rw [wantV_some, show gd 5 = some 12 from (by rw [hgd]; rfl)]; rfl); have hg14 : ∀ n σ b, wantV gd n σ (some (14, b)) = boolIs (ev n σ (.tmp 21)) b := (fun n σ b => by rw [wantV_some, show gd 14 = some 21 from (by rw [hgd]; rfl)]; rfl); have hg23 : ∀ n σ b, wantV gd n σ (some (23, b)) = boolIs (ev n σ (.tmp 30)) b := (fun n σ b => by rw [wantV_some, show gd 23 = some 30 from (by rw [hgd]; rfl)]; rfl); have hg32 : ∀ n σ b, wantV gd n σ (some (32, b)) = boolIs (ev n σ (.tmp 39)) b := (fun n σ b => by rw [wantV_some, show gd 32 = some 39 from (by rw [hgd]; rfl)]; rfl)
  try simp (disch := first | omega | assumption | rfl) only [↓reduceIte, go_sem, Nat.reduceLT, Nat.reduceEqDiff, Nat.reduceSub, p0, q0, Nat.add_zero, decide_eq_true e0, Bool.not_true, p1, q1, Nat.zero_add, decide_eq_true e1, p2, q2, decide_eq_true e2, p3, q3, decide_eq_true e3, p4, ↓hg5, ↓hg14, ↓hg23, ↓hg32]
  refine conv_b2s (l := a.raw) rfl rfl rfl (vq0) (fun j hj => cellO_ext hE1 (gr j hj)) ?_
  try simp (disch := first | omega | assumption | rfl) only [↓reduceIte, go_sem, Nat.reduceLT, Nat.reduceEqDiff, Nat.reduceSub, q4, Nat.zero_add, ↓hg5, ↓hg14, ↓hg23, ↓hg32]
  refine conv_b2s (l := b.raw) rfl rfl rfl (vq0) (fun j hj => cellO_ext hE1 (gs j hj)) ?_
  try simp (disch := first | omega | assumption | rfl) only [↓reduceIte, go_sem, Nat.reduceLT, Nat.reduceEqDiff, Nat.reduceSub, ↓hg5, ↓hg14, ↓hg23, ↓hg32]
  refine hK _ _ ?_; clear hK hgd; clear K; try clear gd
  exact ⟨rfl, rfl, rfl, vq0, vq0, _, vr0, fun h => ⟨e0, by omega, by omega, by omega, by simpa using h⟩⟩
 rintro _ σ1 _ w2 ⟨rfl, rfl, rfl, s2, s3, t, s47, ht⟩
 repeat refine c_r ?_
 cases t with
 | true =>
  refine wt s47 ?_
  repeat (first | refine c_r ?_ | refine rg0 ?_)
  refine rt0 Tryz.ntmps150 ?_
  exact ⟨hE1, _, rfl, fun h => by cases h⟩
 | false =>
 refine wf s47 ?_
 obtain ⟨e0, e1, e2, e3, e4⟩ := ht rfl
 clear s47 ht
 have kn := ka.nn
 have ku := ka.nu
 have kt := ka.nt
 repeat refine c_r ?_
 refine rg0 ?_
 repeat refine c_r ?_
 refine W_loop (fun m σ ds A => ds = [] ∧ ∃ (i : Nat), i + m = V1.length ∧ σ 5 = vi i ∧ σ 2 = .pointer (some ⟨w.heap.size, 0, Option.none⟩) ∧ σ 3 = .pointer (some ⟨w.heap.size + 1, 0, Option.none⟩) ∧ Ext w2 A ∧ a.names.take i = b.names.take i) V1.length ?_ ?_
 ·exact ⟨rfl, 0, by omega, vr0, (vq1 s2), (vq1 s3), Keep.refl _ _, rfl⟩
 clear s2 s3
 rintro m σ ds A ⟨rfl, i, him, s5, s2, s3, hEA, ht⟩
 have p1A := cellO_ext hEA p1
 have q1A := cellO_ext hEA q1
 repeat refine c_r ?_
 refine rg4 s5 s2 p1A Nat.zero_add ?_
 repeat refine c_r ?_
 refine wc0 ?_ ?_
 ·intro hlt
  simp only [decide_eq_true_eq] at hlt
  have hi : i < V1.length := by omega
  have hi2 : i < V2.length := by omega
  have hi0 : (0 : Int) ≤ (i : Int) := by omega
  have hi1 : (i : Int) < (V2.length : Int) := by omega
  have hi1' : (i : Int) + 1 = ((i + 1 : Nat) : Int) := by push_cast; rfl
  have g1 := ga i hi
  have g2 := gb i hi2
  have r1 := hV1 i hi (by omega)
  have r2 := hV2 i hi2 (by omega)
  have kl := ka.ns _ (List.getElem_mem (show i < a.names.length by omega))
  obtain ⟨x1, rfl⟩ := Option.isSome_iff_exists.1 (some_of_cellO g1)
  obtain ⟨x2, rfl⟩ := Option.isSome_iff_exists.1 (some_of_cellO g2)
  repeat refine c_r ?_
  refine W_drw (fun _ => false) [(0, true), (1, true), (2, true), (3, true), (4, true), (5, true), (6, true), (7, true), (8, true), (9, true), (10, false), (11, true)] NoS mixed (by kernel_rfl) ?_; intro gd K x hgd hx hxe hK; clear hxe
  have g1x := cellO_ext (hE1.trans (hEA.trans hx)) g1
  have g2x := cellO_ext (hE1.trans (hEA.trans hx)) g2
  have p1x := cellO_ext hx p1A
  have q1x := cellO_ext hx q1A
  simp (disch := first | omega | assumption | rfl) only [↓reduceIte, go_sem, Nat.reduceLT, Nat.reduceEqDiff, Nat.reduceSub, s5, s2, s3, hi0, hlt, hi1, g1x, g2x, p1x, q1x, Nat.mul_one, Nat.zero_add]
  refine Fn.mono (Is2_ok x (r1.ext (hE1.trans (hEA.trans hx))) (r2.ext (hE1.trans (hEA.trans hx))) kl) ?_
  rintro _ y ⟨hy, t, rfl, ht2⟩
  refine ⟨.inr hy, ?_⟩
  simp (disch := first | omega | assumption | rfl) only [↓reduceIte, go_sem, Nat.reduceLT, Nat.reduceEqDiff, Nat.reduceSub]
  refine hK _ _ ?_; clear hK hgd; clear K; try clear gd
  cases t with
  | true =>
   repeat refine c_r ?_
   refine wf Bool.not_true ?_
   repeat refine c_r ?_
   refine rg2 s5 hi1' ?_
   repeat refine c_r ?_
   exact ⟨m - 1, by omega, rfl, i + 1, by omega, vq0, (vq1 s2), (vq1 s3), (hEA.trans hx).trans hy, list_step _ _ ht (ht2 rfl)⟩
  | false =>
   repeat refine c_r ?_
   refine wt Bool.not_false ?_
   repeat (first | refine c_r ?_ | refine rg0 ?_)
   refine rt0 Tryz.ntmps150 ?_
   exact ⟨hE1.trans ((hEA.trans hx).trans hy), _, rfl, fun h => by cases h⟩
 intro hge
 simp only [decide_eq_false_iff_not] at hge
 have hnames : a.names = b.names := by rwa [List.take_of_length_le (by omega), List.take_of_length_le (by omega)] at ht
 clear him hge s5 ht p1A q1A
 repeat refine c_r ?_
 refine rg0 ?_
 repeat refine c_r ?_
 refine W_loop (fun m σ ds B => ds = [] ∧ ∃ (i : Nat), i + m = a.nums.length ∧ σ 6 = vi i ∧ σ 2 = .pointer (some ⟨w.heap.size, 0, Option.none⟩) ∧ σ 3 = .pointer (some ⟨w.heap.size + 1, 0, Option.none⟩) ∧ Ext w2 B ∧ a.nums.take i = b.nums.take i) a.nums.length ?_ ?_
 ·exact ⟨rfl, 0, by omega, vr0, (vq1 s2), (vq1 s3), hEA, rfl⟩
 clear s2 s3 hEA
 rintro m2 σ3 ds3 B ⟨rfl, i, him, s6, s2, s3, hEB, ht⟩
 have p2B := cellO_ext hEB p2
 have q2B := cellO_ext hEB q2
 repeat refine c_r ?_
 refine rg4 s6 s2 p2B Nat.zero_add ?_
 repeat refine c_r ?_
 refine wc0 ?_ ?_
 ·intro hlt
  simp only [decide_eq_true_eq] at hlt
  have hi : i < a.nums.length := by omega
  have hi2 : i < b.nums.length := by omega
  have hi0 : (0 : Int) ≤ (i : Int) := by omega
  have hi1 : (i : Int) < (b.nums.length : Int) := by omega
  have hi1' : (i : Int) + 1 = ((i + 1 : Nat) : Int) := by push_cast; rfl
  have g1 := gc i hi
  have g2 := gd4 i hi2
  obtain ⟨x1, rfl⟩ := Option.isSome_iff_exists.1 (some_of_cellO g1)
  obtain ⟨x2, rfl⟩ := Option.isSome_iff_exists.1 (some_of_cellO g2)
  repeat refine c_r ?_
  refine W_drw (fun _ => false) [(0, true), (1, true), (2, true), (3, true), (4, true), (5, true), (6, true), (7, true), (8, true), (9, true), (10, true)] NoS mixed (by kernel_rfl) ?_; intro gd K x hgd hx hxe hK; clear hxe
  have g1x := cellO_ext (hE1.trans (hEB.trans hx)) g1
  have g2x := cellO_ext (hE1.trans (hEB.trans hx)) g2
  have p2x := cellO_ext hx p2B
  have q2x := cellO_ext hx q2B
  simp (disch := first | omega | assumption | rfl) only [↓reduceIte, go_sem, Nat.reduceLT, Nat.reduceEqDiff, Nat.reduceSub, s6, s2, s3, hi0, hlt, hi1, g1x, g2x, p2x, q2x, Nat.mul_one, Nat.zero_add]
  refine hK _ _ ?_; clear hK hgd; clear K; try clear gd
  by_cases he : a.nums[i] = b.nums[i]
  ·repeat refine c_r ?_
   refine wf (an2 (decide_eq_true he) Bool.not_true) ?_
   repeat refine c_r ?_
   refine rg2 s6 hi1' ?_
   repeat refine c_r ?_
   exact ⟨m2 - 1, by omega, rfl, i + 1, by omega, vq0, (vq1 s2), (vq1 s3), hEB.trans hx, list_step hi hi2 ht he⟩
  ·repeat refine c_r ?_
   refine wt (an2 (decide_eq_false he) Bool.not_false) ?_
   repeat (first | refine c_r ?_ | refine rg0 ?_)
   refine rt0 Tryz.ntmps150 ?_
   exact ⟨hE1.trans (hEB.trans hx), _, rfl, fun h => by cases h⟩
 intro hge
 simp only [decide_eq_false_iff_not] at hge
 have hnums : a.nums = b.nums := by rwa [List.take_of_length_le (by omega), List.take_of_length_le (by omega)] at ht
 have p3B := cellO_ext hEB p3
 have q3B := cellO_ext hEB q3
 rw [← htxe] at p3B
 rw [← huxe] at q3B
 repeat refine c_r ?_
 refine rc (an5 s2 s3 p3B q3B Nat.zero_add) (Is2_ok B (htx.ext (hE1.trans hEB)) (hux.ext (hE1.trans hEB)) kt) ?_
 rintro _ y ⟨hy, t, rfl, ht2⟩
 refine re trivial ?_
 repeat refine c_r ?_
 refine rt0 Tryz.ntmps150 ?_
 refine ⟨hE1.trans (hEB.trans hy), _, rfl, fun h => ?_⟩
 obtain ⟨t1, n1, u1, x1, r1⟩ := a
 obtain ⟨t2, n2, u2, x2, r2⟩ := b
 dsimp only at e0 hnames hnums ht2 e4
 rw [e0, hnames, hnums, ht2 h, e4]
set_option maxHeartbeats 2000000 in
theorem Is5_ok (w : World) {av bv : Value} {xs ys : List RecL} (ha : Rows 7 (RecAt w) w av xs) (hb : Rows 7 (RecAt w) w bv ys) (ko : ∀ r ∈ xs, r.owner.length ≤ 1000000000000000 ∧ DatN r.dat) (hl : xs.length ≤ 1000000000) :
  Fn Tryz.prog 91 #[av, bv] w (fun v w' => Ext w w' ∧ ∃ t, v = .bool t ∧ (t = true → xs = ys)) := by
 obtain ⟨a1, c1, rfl, _, h1⟩ := ha.open
 obtain ⟨a2, c2, rfl, _, h2⟩ := hb.open
 refine enter Tryz.func91 Tryz.ntmps91 rfl rfl ?_
 repeat refine c_r ?_
 refine rg0 ?_
 repeat refine c_r ?_
 by_cases hn : (xs.length : Int) = (ys.length : Int)
 rotate_left
 ·refine rg1 (decide_eq_false hn) ?_
  repeat refine c_r ?_
  refine wt Bool.not_false ?_
  repeat (first | refine c_r ?_ | refine rg0 ?_)
  refine rt0 Tryz.ntmps91 ?_
  exact ⟨Keep.refl _ _, _, rfl, fun h => by cases h⟩
 refine rg1 (decide_eq_true hn) ?_
 repeat refine c_r ?_
 refine wf Bool.not_true ?_
 repeat refine c_r ?_
 refine rg0 ?_
 repeat refine c_r ?_
 refine W_loop (fun m σ ds A => ds = [] ∧ ∃ (i : Nat), i + m = xs.length ∧ σ 5 = vi i ∧ σ 0 = .slice a1 xs.length c1 ∧ σ 1 = .slice a2 ys.length c2 ∧ Ext w A ∧ xs.take i = ys.take i) xs.length ?_ ?_
 ·exact ⟨rfl, 0, by omega, vr0, vq0, vq0, Keep.refl _ _, rfl⟩
 rintro m σ ds A ⟨rfl, i, him, s5, s0, s1, hEA, ht⟩
 repeat refine c_r ?_
 refine rg2 s5 s0 ?_
 repeat refine c_r ?_
 refine wc0 ?_ ?_
 ·intro hlt
  simp only [decide_eq_true_eq] at hlt
  have hi : i < xs.length := by omega
  have hi2 : i < ys.length := by omega
  have hi0 : (0 : Int) ≤ (i : Int) := by omega
  have hi1 : (i : Int) < (ys.length : Int) := by omega
  have hi1' : (i : Int) + 1 = ((i + 1 : Nat) : Int) := by push_cast; rfl
  obtain ⟨ca, hca, hRa⟩ := h1 i hi
  obtain ⟨cb, hcb, hRb⟩ := h2 i hi2
  obtain ⟨ko1, ko2⟩ := ko _ (List.getElem_mem hi)
  obtain ⟨ra, hra⟩ : ∃ r, xs[i] = r := ⟨_, rfl⟩
  obtain ⟨rb, hrb⟩ : ∃ r, ys[i] = r := ⟨_, rfl⟩
  rw [hra] at hRa ko1 ko2
  rw [hrb] at hRb
  obtain ⟨oa, da, rfl, o1, e1⟩ := hRa.ex
  obtain ⟨ob, db, rfl, o2, e2⟩ := hRb.ex
  have e1' := e1
  have e2' := e2
  obtain ⟨na1, na2, na3, na4, rfl, _⟩ := e1.ex
  obtain ⟨nb1, nb2, nb3, nb4, rfl, _⟩ := e2.ex
  obtain ⟨x1, rfl⟩ := Option.isSome_iff_exists.1 (cellsO_some hca)
  obtain ⟨x2, rfl⟩ := Option.isSome_iff_exists.1 (cellsO_some hcb)
  obtain ⟨y1, hy1⟩ : ∃ y, adr (some x1) (i * 7) = some y := ⟨_, rfl⟩
  obtain ⟨y2, hy2⟩ : ∃ y, adr (some x2) (i * 7) = some y := ⟨_, rfl⟩
  rw [hy1] at hca
  rw [hy2] at hcb
  obtain ⟨u1, hu1⟩ : ∃ y, adr (some y1) 1 = some y := ⟨_, rfl⟩
  obtain ⟨u2, hu2⟩ : ∃ y, adr (some y2) 1 = some y := ⟨_, rfl⟩
  obtain ⟨z1, hz1⟩ : ∃ y, adr (some y1) 2 = some y := ⟨_, rfl⟩
  obtain ⟨z2, hz2⟩ : ∃ y, adr (some y2) 2 = some y := ⟨_, rfl⟩
  repeat refine c_r ?_
  refine W_drw (fun _ => false) [(0, true), (1, true), (2, true), (3, true), (4, true), (5, true), (6, true), (7, true), (8, true), (9, true), (10, false), (11, true), (12, true), (13, true), (14, true), (15, true), (16, true), (17, true), (18, true), (19, true), (20, true), (21, true), (22, true), (23, true), (24, true), (25, true), (26, true), (27, true), (28, true), (29, true), (30, true), (31, true), (32, true), (33, true), (34, true), (35, true), (36, false), (37, true), (38, true)] NoS mixed (by kernel_rfl) ?_; intro gd K x hgd hx hxe hK; clear hxe
  have hg12 : ∀ n σ b, wantV gd n σ (some (12, b)) = boolIs (ev n σ (.tmp 29)) b := (fun n σ b => by rw [wantV_some, show gd 12 = some 29 from (by rw [hgd]; rfl)]; rfl); have hg25 : ∀ n σ b, wantV gd n σ (some (25, b)) = boolIs (ev n σ (.tmp 42)) b := (fun n σ b => by rw [wantV_some, show gd 25 = some 42 from (by rw [hgd]; rfl)]; rfl)
  have hW := hEA.trans hx
  have f0 : cellO x (adr (some y1) 0) = some oa := cell_of_cells (cellsO_ext hW hca) rfl
  have f1 : cellO x (adr (some y1) 1) = some (v32 ra.ttl) := cell_of_cells (cellsO_ext hW hca) rfl
  have f2 : cellsO x (adr (some y1) 2) 5 = some [vi ra.dat.ty, na1, na2, na3, na4] := cells_drop (m := 2) (k := 5) (cellsO_ext hW hca)
  have g0 : cellO x (adr (some y2) 0) = some ob := cell_of_cells (cellsO_ext hW hcb) rfl
  have g1 : cellO x (adr (some y2) 1) = some (v32 rb.ttl) := cell_of_cells (cellsO_ext hW hcb) rfl
  have g2 : cellsO x (adr (some y2) 2) 5 = some [vi rb.dat.ty, nb1, nb2, nb3, nb4] := cells_drop (m := 2) (k := 5) (cellsO_ext hW hcb)
  rw [adr_zero] at f0 g0
  rw [hu1] at f1
  rw [hu2] at g1
  rw [hz1] at f2
  rw [hz2] at g2
  simp (disch := first | omega | assumption | rfl) only [↓reduceIte, go_sem, Nat.reduceLT, Nat.reduceEqDiff, Nat.reduceSub, s5, s0, s1, hi0, hlt, hi1, hy1, hy2, hu1, hu2, hz1, hz2, adr_zero, f0, f1, f2, g0, g1, g2]
  refine Fn.mono (Is2_ok x (o1.ext hW) (o2.ext hW) ko1) ?_
  rintro _ y ⟨hy, t, rfl, ht2⟩
  refine ⟨.inr hy, ?_⟩
  cases t with
  | false =>
   simp (disch := first | omega | assumption | rfl) only [↓reduceIte, go_sem, Nat.reduceLT, Nat.reduceEqDiff, Nat.reduceSub, Bool.not_false, bi_un, ↓hg12, ↓hg25]
   refine hK _ _ ?_; clear hK hgd; clear K; try clear gd
   repeat refine c_r ?_
   refine wt trivial ?_
   repeat (first | refine c_r ?_ | refine rg0 ?_)
   refine rt0 Tryz.ntmps91 ?_
   exact ⟨hW.trans hy, _, rfl, fun h => by cases h⟩
  | true =>
  have f1y := cellO_ext hy f1
  have f2y := cellsO_ext hy f2
  have g1y := cellO_ext hy g1
  have g2y := cellsO_ext hy g2
  by_cases htt : ra.ttl = rb.ttl
  rotate_left
  ·simp (disch := first | omega | assumption | rfl) only [↓reduceIte, go_sem, Nat.reduceLT, Nat.reduceEqDiff, Nat.reduceSub, Bool.not_true, bi_un, s5, s0, s1, hi0, hlt, hi1, hy1, hy2, hu1, hu2, f1y, g1y, decide_eq_false htt, Bool.not_false, ↓hg12, ↓hg25]
   refine hK _ _ ?_; clear hK hgd; clear K; try clear gd
   repeat refine c_r ?_
   refine wt trivial ?_
   repeat (first | refine c_r ?_ | refine rg0 ?_)
   refine rt0 Tryz.ntmps91 ?_
   exact ⟨hW.trans hy, _, rfl, fun h => by cases h⟩
  simp (disch := first | omega | assumption | rfl) only [↓reduceIte, go_sem, Nat.reduceLT, Nat.reduceEqDiff, Nat.reduceSub, Bool.not_true, bi_un, s5, s0, s1, hi0, hlt, hi1, hy1, hy2, hu1, hu2, f1y, g1y, decide_eq_true htt, hz1, hz2, f2y, g2y, ↓hg12, ↓hg25]
  refine Fn.mono (Is4_ok y (e1'.ext (hW.trans hy)) (e2'.ext (hW.trans hy)) ko2) ?_
  rintro _ z ⟨hz, t, rfl, ht4⟩
  refine ⟨.inr hz, ?_⟩
  simp (disch := first | omega | assumption | rfl) only [↓reduceIte, go_sem, Nat.reduceLT, Nat.reduceEqDiff, Nat.reduceSub, bi_un, ↓hg12, ↓hg25]
  refine hK _ _ ?_; clear hK hgd; clear K; try clear gd
  have hWz := (hW.trans hy).trans hz
  cases t with
  | false =>
   repeat refine c_r ?_
   refine wt Bool.not_false ?_
   repeat (first | refine c_r ?_ | refine rg0 ?_)
   refine rt0 Tryz.ntmps91 ?_
   exact ⟨hWz, _, rfl, fun h => by cases h⟩
  | true =>
   have hrr : xs[i] = ys[i] := by
    rw [hra, hrb]
    obtain ⟨r1, r2, r3⟩ := ra
    obtain ⟨r4, r5, r6⟩ := rb
    dsimp only at ht2 htt ht4
    rw [ht2 rfl, htt, ht4 rfl]
   repeat refine c_r ?_
   refine wf Bool.not_true ?_
   repeat refine c_r ?_
   refine rg2 s5 hi1' ?_
   repeat refine c_r ?_
   exact ⟨m - 1, by omega, rfl, i + 1, by omega, vq0, (vq1 s0), (vq1 s1), hWz, list_step hi hi2 ht hrr⟩
 ·intro hge
  simp only [decide_eq_false_iff_not] at hge
  repeat (first | refine c_r ?_ | refine rg0 ?_)
  refine rt0 Tryz.ntmps91 ?_
  refine ⟨hEA, _, rfl, fun _ => ?_⟩
  rwa [List.take_of_length_le (by omega), List.take_of_length_le (by omega)] at ht
def eqAll {α : Type} (p : α → α → Bool) : List α → List α → Bool
 | [], [] => true
 | x :: l, y :: m => p x y && eqAll p l m
 | _, _ => false
theorem eqAll_len {α : Type} {p : α → α → Bool} : ∀ {l m : List α}, l.length ≠ m.length → eqAll p l m = false
 | [], [], h => absurd rfl h
 | [], _ :: _, _ => rfl
 | _ :: _, [], _ => rfl
 | x :: l, y :: m, h => by
  simp only [eqAll]
  rw [eqAll_len (fun e => h (by rw [List.length_cons, List.length_cons, e])), Bool.and_false]
theorem eqAll_drop {α : Type} {p : α → α → Bool} {l m : List α} {i : Nat} (hl : i < l.length) (hm : i < m.length) : eqAll p (l.drop i) (m.drop i) = (p l[i] m[i] && eqAll p (l.drop (i + 1)) (m.drop (i + 1))) := by
 rw [List.drop_eq_getElem_cons hl, List.drop_eq_getElem_cons hm]; rfl
end Go.Proofs.YtopbbjdembnfdaaGreat
namespace Go.Proofs.YtopbbjdembnfdaaGreat.P_ed
open Go Go.Proofs.YtopbbjdembnfdaaGreat
set_option maxRecDepth 10000
theorem EqualFunc_ok {α : Type} {w : World} {C D : List Value → α → Prop} {uv vv : Value} {xs ys : List α} {g : FuncId} {p : α → α → Bool} (hC : Shape 5 C) (hD : Shape 5 D) (hx : Rows 5 C w uv xs) (hy : Rows 5 D w vv ys) (hcal : callable Tryz.prog g = true)
  (hcall : ∀ (A : World) (cs ds : List Value) (x y : α), Ext w A → x ∈ xs → y ∈ ys → C cs x → D ds y → Fn Tryz.prog g #[.agg cs.toArray, .agg ds.toArray] A (fun v A' => v = .bool (p x y) ∧ Ext A A')) (hxl : xs.length ≤ 1000000000) (hyl : ys.length ≤ 1000000000) :
  Fn Tryz.prog 79 #[uv, vv, .func (.func g) #[] #[]] w (fun v w' => v = .bool (eqAll p xs ys) ∧ Ext w w') := by
 obtain ⟨ax, cx, rfl, hcx, hgx⟩ := hx.open
 obtain ⟨ay, cy, rfl, hcy, hgy⟩ := hy.open
 refine enter Tryz.func79 Tryz.ntmps79 rfl rfl ?_
 repeat refine c_r ?_
 refine rg0 ?_
 repeat refine c_r ?_
 refine rg0 ?_
 repeat refine c_r ?_
 refine wc0 ?_ ?_
 ·intro hne
  simp only [Bool.not_eq_true', decide_eq_false_iff_not] at hne
  repeat (first | refine c_r ?_ | refine rg0 ?_)
  refine rt0 Tryz.ntmps79 ?_
  exact ⟨by rw [eqAll_len (by omega)], Keep.refl _ _⟩
 intro heq
 simp only [Bool.not_eq_false', decide_eq_true_eq] at heq
 have hlen : xs.length = ys.length := by omega
 repeat refine c_r ?_
 refine rg0 ?_
 repeat refine c_r ?_
 refine W_loop (fun m σ ds A => ds = [] ∧ ∃ (i : Nat), i + m = xs.length ∧ σ 17 = vi i ∧ σ 16 = vi xs.length ∧ σ 15 = .slice ax xs.length cx ∧ σ 1 = .slice ay ys.length cy ∧ σ 2 = .func (.func g) #[] #[] ∧ Ext w A ∧ eqAll p xs ys = eqAll p (xs.drop i) (ys.drop i)) xs.length ?_ ?_
 ·exact ⟨rfl, 0, by omega, vr0, vr0, vq0, vq0, vq0, Keep.refl _ _, rfl⟩
 rintro m σ ds A ⟨rfl, i, him, h17, h16, h15, h1, h2, hEA, hinv⟩
 repeat refine c_r ?_
 refine rg2 h17 h16 ?_
 repeat refine c_r ?_
 refine wc0 ?_ ?_
 ·intro hlt
  simp only [decide_eq_true_eq] at hlt
  have hix : i < xs.length := by omega
  have hiy : i < ys.length := by omega
  have hi0 : (0 : Int) ≤ (i : Int) := by omega
  have hi1 : (i : Int) < (xs.length : Int) := by omega
  have hi2 : (i : Int) < (ys.length : Int) := by omega
  have hi1' : (i : Int) + 1 = ((i + 1 : Nat) : Int) := by push_cast; rfl
  obtain ⟨cs, hcs, hCx⟩ := hgx i hix
  obtain ⟨es, hes, hDy⟩ := hgy i hiy
  obtain ⟨zx, rfl⟩ := Option.isSome_iff_exists.1 (cellsO_some hcs)
  obtain ⟨zy, rfl⟩ := Option.isSome_iff_exists.1 (cellsO_some hes)
  have d1 := cellsO_ext hEA hcs
  repeat refine c_r ?_
  refine rq ?_; intro gd K hgd hK
  try simp (disch := first | omega | assumption | rfl) only [↓reduceIte, go_sem, Nat.reduceLT, Nat.reduceEqDiff, Nat.reduceSub, h15, h17, hi0, hi1, d1]
  refine sv_all (P := Tryz.prog) (t := 59) (l := cs) (new_block A _) (hC.len hCx) (hC.ones hCx) (by rw [hC.len hCx]; rfl) rfl ?_
  intro A3 hs5 hB5 hk5
  try simp (disch := first | omega | assumption | rfl) only [↓reduceIte, go_sem, Nat.reduceLT, Nat.reduceEqDiff, Nat.reduceSub]
  refine hK _ _ ?_; clear hK hgd; clear K; try clear gd
  rw [new_size] at hs5
  have hE5 : Ext A A3 := Keep.to_ext (Ext.alloc A _) rfl (fun b hb => by omega) hk5
  clear hk5
  have d2 := cellsO_ext (hEA.trans hE5) hes
  repeat refine c_r ?_
  refine rq ?_; intro gd K hgd hK
  try simp (disch := first | omega | assumption | rfl) only [↓reduceIte, go_sem, Nat.reduceLT, Nat.reduceEqDiff, Nat.reduceSub, h1, hi0, hi2, d2]
  refine sv_all (P := Tryz.prog) (t := 59) (l := es) (new_block A3 _) (hD.len hDy) (hD.ones hDy) (by rw [hD.len hDy]; rfl) rfl ?_
  intro A4 hs6 hB6 hk6
  try simp (disch := first | omega | assumption | rfl) only [↓reduceIte, go_sem, Nat.reduceLT, Nat.reduceEqDiff, Nat.reduceSub]
  refine hK _ _ ?_; clear hK hgd; clear K; try clear gd
  rw [new_size] at hs6
  have hE6 : Ext A3 A4 := Keep.to_ext (Ext.alloc A3 _) rfl (fun b hb => by omega) hk6
  clear hk6
  have q1 := sv_cells (n := 5) (hE6.at hB5) (hC.len hCx).symm
  have q2 := sv_cells (n := 5) hB6 (hD.len hDy).symm
  have hst := eqAll_drop (p := p) hix hiy
  repeat refine c_r ?_
  refine rq ?_; intro gd K hgd hK
  try simp (disch := first | omega | assumption | rfl) only [↓reduceIte, go_sem, Nat.reduceLT, Nat.reduceEqDiff, Nat.reduceSub, h2, q1, q2]
  refine call_of hcal (Fn.mono (hcall A4 cs es xs[i] ys[i] ((hEA.trans hE5).trans hE6) (List.getElem_mem hix) (List.getElem_mem hiy) hCx hDy) ?_)
  rintro _ A5 ⟨rfl, hE7⟩
  try simp (disch := first | omega | assumption | rfl) only [↓reduceIte, go_sem, Nat.reduceLT, Nat.reduceEqDiff, Nat.reduceSub]
  refine hK _ _ ?_; clear hK hgd; clear K; try clear gd
  repeat refine c_r ?_
  refine wc0 ?_ ?_
  ·intro hf
   simp only [Bool.not_eq_true'] at hf
   repeat (first | refine c_r ?_ | refine rg0 ?_)
   refine rt0 Tryz.ntmps79 ?_
   exact ⟨by rw [hinv, hst, hf, Bool.false_and], ((hEA.trans hE5).trans hE6).trans hE7⟩
  ·intro ht
   simp only [Bool.not_eq_false'] at ht
   repeat refine c_r ?_
   refine rg2 h17 hi1' ?_
   repeat refine c_r ?_
   exact ⟨m - 1, by omega, rfl, i + 1, by omega, vq0, (vq1 h16), (vq1 h15), (vq1 h1), (vq1 h2), ((hEA.trans hE5).trans hE6).trans hE7, by rw [hinv, hst, ht, Bool.true_and]⟩
 ·intro hge
  simp only [decide_eq_false_iff_not] at hge
  have e1 : xs.drop i = [] := List.drop_eq_nil_of_le (by omega)
  have e2 : ys.drop i = [] := List.drop_eq_nil_of_le (by omega)
  repeat (first | refine c_r ?_ | refine rg0 ?_)
  refine rt0 Tryz.ntmps79 ?_
  exact ⟨by rw [hinv, e1, e2]; rfl, hEA⟩
end Go.Proofs.YtopbbjdembnfdaaGreat.P_ed
namespace Go.Proofs.YtopbbjdembnfdaaGreat.P_eg
open Go Go.Proofs.YtopbbjdembnfdaaGreat
set_option maxRecDepth 10000
theorem EqualFunc_ok {α : Type} {w : World} {C D : List Value → α → Prop} {uv vv : Value} {xs ys : List α} {g : FuncId} {p : α → α → Bool} (hC : Shape 2 C) (hD : Shape 2 D) (hx : Rows 2 C w uv xs) (hy : Rows 2 D w vv ys) (hcal : callable Tryz.prog g = true)
  (hcall : ∀ (A : World) (cs ds : List Value) (x y : α), Ext w A → x ∈ xs → y ∈ ys → C cs x → D ds y → Fn Tryz.prog g #[.agg cs.toArray, .agg ds.toArray] A (fun v A' => v = .bool (p x y) ∧ Ext A A')) (hxl : xs.length ≤ 1000000000) (hyl : ys.length ≤ 1000000000) :
  Fn Tryz.prog 81 #[uv, vv, .func (.func g) #[] #[]] w (fun v w' => v = .bool (eqAll p xs ys) ∧ Ext w w') := by
 obtain ⟨ax, cx, rfl, hcx, hgx⟩ := hx.open
 obtain ⟨ay, cy, rfl, hcy, hgy⟩ := hy.open
 refine enter Tryz.func81 Tryz.ntmps81 rfl rfl ?_
 repeat refine c_r ?_
 refine rg0 ?_
 repeat refine c_r ?_
 refine rg0 ?_
 repeat refine c_r ?_
 refine wc0 ?_ ?_
 ·intro hne
  simp only [Bool.not_eq_true', decide_eq_false_iff_not] at hne
  repeat (first | refine c_r ?_ | refine rg0 ?_)
  refine rt0 Tryz.ntmps81 ?_
  exact ⟨by rw [eqAll_len (by omega)], Keep.refl _ _⟩
 intro heq
 simp only [Bool.not_eq_false', decide_eq_true_eq] at heq
 have hlen : xs.length = ys.length := by omega
 repeat refine c_r ?_
 refine rg0 ?_
 repeat refine c_r ?_
 refine W_loop (fun m σ ds A => ds = [] ∧ ∃ (i : Nat), i + m = xs.length ∧ σ 17 = vi i ∧ σ 16 = vi xs.length ∧ σ 15 = .slice ax xs.length cx ∧ σ 1 = .slice ay ys.length cy ∧ σ 2 = .func (.func g) #[] #[] ∧ Ext w A ∧ eqAll p xs ys = eqAll p (xs.drop i) (ys.drop i)) xs.length ?_ ?_
 ·exact ⟨rfl, 0, by omega, vr0, vr0, vq0, vq0, vq0, Keep.refl _ _, rfl⟩
 rintro m σ ds A ⟨rfl, i, him, h17, h16, h15, h1, h2, hEA, hinv⟩
 repeat refine c_r ?_
 refine rg2 h17 h16 ?_
 repeat refine c_r ?_
 refine wc0 ?_ ?_
 ·intro hlt
  simp only [decide_eq_true_eq] at hlt
  have hix : i < xs.length := by omega
  have hiy : i < ys.length := by omega
  have hi0 : (0 : Int) ≤ (i : Int) := by omega
  have hi1 : (i : Int) < (xs.length : Int) := by omega
  have hi2 : (i : Int) < (ys.length : Int) := by omega
  have hi1' : (i : Int) + 1 = ((i + 1 : Nat) : Int) := by push_cast; rfl
  obtain ⟨cs, hcs, hCx⟩ := hgx i hix
  obtain ⟨es, hes, hDy⟩ := hgy i hiy
  obtain ⟨zx, rfl⟩ := Option.isSome_iff_exists.1 (cellsO_some hcs)
  obtain ⟨zy, rfl⟩ := Option.isSome_iff_exists.1 (cellsO_some hes)
  have d1 := cellsO_ext hEA hcs
  repeat refine c_r ?_
  refine rq ?_; intro gd K hgd hK
  try simp (disch := first | omega | assumption | rfl) only [↓reduceIte, go_sem, Nat.reduceLT, Nat.reduceEqDiff, Nat.reduceSub, h15, h17, hi0, hi1, d1]
  refine sv_all (P := Tryz.prog) (t := 112) (l := cs) (new_block A _) (hC.len hCx) (hC.ones hCx) (by rw [hC.len hCx]; rfl) rfl ?_
  intro A3 hs5 hB5 hk5
  try simp (disch := first | omega | assumption | rfl) only [↓reduceIte, go_sem, Nat.reduceLT, Nat.reduceEqDiff, Nat.reduceSub]
  refine hK _ _ ?_; clear hK hgd; clear K; try clear gd
  rw [new_size] at hs5
  have hE5 : Ext A A3 := Keep.to_ext (Ext.alloc A _) rfl (fun b hb => by omega) hk5
  clear hk5
  have d2 := cellsO_ext (hEA.trans hE5) hes
  repeat refine c_r ?_
  refine rq ?_; intro gd K hgd hK
  try simp (disch := first | omega | assumption | rfl) only [↓reduceIte, go_sem, Nat.reduceLT, Nat.reduceEqDiff, Nat.reduceSub, h1, hi0, hi2, d2]
  refine sv_all (P := Tryz.prog) (t := 112) (l := es) (new_block A3 _) (hD.len hDy) (hD.ones hDy) (by rw [hD.len hDy]; rfl) rfl ?_
  intro A4 hs6 hB6 hk6
  try simp (disch := first | omega | assumption | rfl) only [↓reduceIte, go_sem, Nat.reduceLT, Nat.reduceEqDiff, Nat.reduceSub]
  refine hK _ _ ?_; clear hK hgd; clear K; try clear gd
  rw [new_size] at hs6
  have hE6 : Ext A3 A4 := Keep.to_ext (Ext.alloc A3 _) rfl (fun b hb => by omega) hk6
  clear hk6
  have q1 := sv_cells (n := 2) (hE6.at hB5) (hC.len hCx).symm
  have q2 := sv_cells (n := 2) hB6 (hD.len hDy).symm
  have hst := eqAll_drop (p := p) hix hiy
  repeat refine c_r ?_
  refine rq ?_; intro gd K hgd hK
  try simp (disch := first | omega | assumption | rfl) only [↓reduceIte, go_sem, Nat.reduceLT, Nat.reduceEqDiff, Nat.reduceSub, h2, q1, q2]
  refine call_of hcal (Fn.mono (hcall A4 cs es xs[i] ys[i] ((hEA.trans hE5).trans hE6) (List.getElem_mem hix) (List.getElem_mem hiy) hCx hDy) ?_)
  rintro _ A5 ⟨rfl, hE7⟩
  try simp (disch := first | omega | assumption | rfl) only [↓reduceIte, go_sem, Nat.reduceLT, Nat.reduceEqDiff, Nat.reduceSub]
  refine hK _ _ ?_; clear hK hgd; clear K; try clear gd
  repeat refine c_r ?_
  refine wc0 ?_ ?_
  ·intro hf
   simp only [Bool.not_eq_true'] at hf
   repeat (first | refine c_r ?_ | refine rg0 ?_)
   refine rt0 Tryz.ntmps81 ?_
   exact ⟨by rw [hinv, hst, hf, Bool.false_and], ((hEA.trans hE5).trans hE6).trans hE7⟩
  ·intro ht
   simp only [Bool.not_eq_false'] at ht
   repeat refine c_r ?_
   refine rg2 h17 hi1' ?_
   repeat refine c_r ?_
   exact ⟨m - 1, by omega, rfl, i + 1, by omega, vq0, (vq1 h16), (vq1 h15), (vq1 h1), (vq1 h2), ((hEA.trans hE5).trans hE6).trans hE7, by rw [hinv, hst, ht, Bool.true_and]⟩
 ·intro hge
  simp only [decide_eq_false_iff_not] at hge
  have e1 : xs.drop i = [] := List.drop_eq_nil_of_le (by omega)
  have e2 : ys.drop i = [] := List.drop_eq_nil_of_le (by omega)
  repeat (first | refine c_r ?_ | refine rg0 ?_)
  refine rt0 Tryz.ntmps81 ?_
  exact ⟨by rw [hinv, e1, e2]; rfl, hEA⟩
end Go.Proofs.YtopbbjdembnfdaaGreat.P_eg
namespace Go.Proofs.YtopbbjdembnfdaaGreat
open Go
set_option maxRecDepth 10000
structure ResOk (r : ResL) : Prop where
 nm : NmS r.name
 dat : ∀ d ∈ r.data, DatOk d
 dl : r.data.length ≤ 1000000000
 gl : r.glue.length ≤ 1000000000
 g : ∀ x ∈ r.glue, NmS x.1 ∧ (∀ d ∈ x.2, DatOk d) ∧ x.2.length ≤ 1000000000
theorem DatX.cells {w0 A : World} {B : Nat} {nm : Value} {cs : List Value} {d : DatL} (h : DatX w0 B A nm cs d) : cs.length = 5 ∧ ∀ q ∈ cs, one q = true := by
 obtain ⟨b1, m1, e1, b2, m2, e2, b3, m3, e3, b4, m4, e4, hds⟩ := h.open
 rw [hds]
 refine ⟨rfl, fun q hq => ?_⟩
 simp at hq
 rcases hq with rfl | rfl | rfl | rfl | rfl <;> rfl
def NumR (R : List RecL) : Prop := ∀ r ∈ R, ∀ n ∈ r.dat.nums, 0 ≤ n ∧ n ≤ 4294967295
theorem checkN_lb {n : Nm} (h : checkN n = 0) : LB n := fun l hl => by have := (checkN_labels h l hl).2; omega
theorem good_dat {R : List RecL} (h : GoodRs R) (hv : NumR R) : ∀ r ∈ R, DatOk r.dat := fun r hr => by
 have hf := (h.few r hr).2
 exact ⟨fun n hn => ⟨checkN_lb (h.names r hr n hn), by have := (hf.names n hn).2; omega⟩, by have := hf.nn; omega, by have := hf.nu; omega, by have := hf.nt; omega, hv r hr, by have := hf.nr; omega⟩
theorem good_ok {R : List RecL} (h : GoodRs R) (hv : NumR R) : ∀ r ∈ R, RecOk r := fun r hr =>
 ⟨checkN_lb (h.own r hr), by have := checkN_len (h.own r hr); omega, good_dat h hv r hr⟩
structure GoodC (R : List RecL) : Prop where
 ok : ∀ r ∈ R, RecOk r
 srt : SortR R
 gd : GoodR R
 ld : LeadR R
 len : R.length ≤ 60
 nn : ∀ r ∈ R, r.dat.names.length ≤ 1000000000
theorem good_canon {R : List RecL} (h : GoodRs R) (hv : NumR R) : GoodC (canonL R) := by
 refine ⟨canonL_all (fun a b h => ⟨h.lb, h.len, h.dat⟩) (good_ok h hv), canonL_sorted R, ?_, ?_, Nat.le_trans (canonL_len R) h.len, ?_⟩
 ·exact canonL_all (Q := fun r => ∀ n ∈ r.dat.names, NmG n) (fun a b h => h) (fun r hr n hn => checkN_g (h.names r hr n hn))
 ·refine canonL_all (Q := fun r => (r.dat.ty = 2 ∨ r.dat.ty = 5 ∨ r.dat.ty = 39) → r.dat.names ≠ []) (fun a b h => h) (fun r hr ht hn => ?_)
  have := h.lead r hr ht
  rw [hn] at this
  cases this
 ·exact canonL_all (Q := fun r => r.dat.names.length ≤ 1000000000) (fun a b h => h) (fun r hr => (h.few r hr).2.nn)
theorem good_zone {w0 w : World} {ov lv : Value} {o : Nm} {R : List RecL} (h : GoodC R) (hE : Ext w0 w) (ho : Row w ov (o.map vs)) (hl : Rows 7 (RecAt w0) w lv R) (hg : goodN o = true) : ZnAt w0 w ov lv o R :=
 ⟨hE, ho, hl, (goodN_g hg).m.s.lb, (goodN_g hg).m.s.len, h.ok, by have := h.len; omega⟩
structure ResF (P : DatL → Prop) (m : Nat) (r : ResL) : Prop where
 nm : NmS r.name
 dat : ∀ d ∈ r.data, P d
 dl : r.data.length ≤ m
 gl : r.glue.length ≤ m
 g : ∀ x ∈ r.glue, NmS x.1 ∧ (∀ d ∈ x.2, P d) ∧ x.2.length ≤ m + m
theorem resF_plain {P : DatL → Prop} {m : Nat} {k : Int} {ds : List DatL} {n : Nm} {b : Bool} (hn : NmS n) (hd : ∀ d ∈ ds, P d) (hl : ds.length ≤ m) : ResF P m ⟨k, ds, n, b, []⟩ :=
 ⟨hn, hd, hl, Nat.zero_le _, fun x h => by cases h⟩
theorem nil_s : NmS [] := ⟨fun l h => (by cases h), Nat.zero_le _⟩
section
variable {P : DatL → Prop} {R : List RecL} {o : Nm}
theorem datC_P (hP : ∀ r ∈ R, P r.dat) {n : Nm} {t : Int} : ∀ d ∈ datC R n t, P d := fun d hd => by
 obtain ⟨r, hr, rfl⟩ := datC_mem hd
 exact hP r hr
theorem refer_F (hP : ∀ r ∈ R, P r.dat) (hG : GoodR R) {n : Nm} (hn : NmS n) : ResF P R.length (referL R n) := by
 refine ⟨hn, datC_P hP, datC_len, ?_, fun x hx => ?_⟩
 ·exact Nat.le_trans (glueOf_len _ _) (Nat.le_trans (hostsG_len _ _) (Nat.le_trans (targets_len _ _) datC_len))
 ·obtain ⟨h, hh, he⟩ := List.mem_filterMap.1 hx
  split at he
  ·cases he
  ·cases he
   refine ⟨(targets_good hG (n := n) (t := 2) (fun d hd => hd) h (hostsG_mem _ _ h hh)).m.s, fun d hd => ?_, ?_⟩
   ·unfold glueL at hd
    rcases List.mem_append.1 hd with hd | hd
    ·exact datC_P hP d hd
    ·exact datC_P hP d hd
   ·have h1 := datC_len (R := R) (n := h) (t := 1)
    have h2 := datC_len (R := R) (n := h) (t := 28)
    show (glueL R h).length ≤ _
    unfold glueL
    rw [List.length_append]; omega
theorem take_P (hP : ∀ r ∈ R, P r.dat) {n : Nm} {t : Int} : (∀ d ∈ (datC R n t).take 1, P d) ∧ ((datC R n t).take 1).length ≤ R.length :=
 ⟨fun d hd => datC_P hP d (List.mem_of_mem_take hd), by have := datC_len (R := R) (n := n) (t := t); rw [List.length_take]; omega⟩
theorem renamed_F (hP : ∀ r ∈ R, P r.dat) (hG : GoodR R) {q n : Nm} (hq : NmM q) {r : ResL} (h : renamedL R q n = some r) : ResF P R.length r := by
 unfold renamedL at h
 split at h
 ·cases h
 ·split at h
  ·cases h
   have hm := swap_m hq (toN_m hG (n := n) (t := 39) (u := 39)) (f := n)
   exact resF_plain ⟨fun l hl => by have := hm.1 l hl; omega, by have := hm.2; omega⟩ (take_P hP).1 (take_P hP).2
  ·cases h
   exact resF_plain nil_s (fun d h => by cases h) (Nat.zero_le _)
theorem at_F (hP : ∀ r ∈ R, P r.dat) (hG : GoodR R) {n : Nm} {t : Int} {b : Bool} : ResF P R.length (atL R n t b) := by
 unfold atL
 split
 ·exact resF_plain nil_s (datC_P hP) datC_len
 ·split
  ·exact resF_plain (toN_m hG).s (take_P hP).1 (take_P hP).2
  ·exact resF_plain nil_s (fun d h => by cases h) (Nat.zero_le _)
theorem go_F (hP : ∀ r ∈ R, P r.dat) (hG : GoodR R) {q : Nm} (hq : NmM q) : ∀ {l : List Nm} {r : ResL}, (∀ n ∈ l, NmS n) → goL o R q l = some r → ResF P R.length r
 | [], r, _, h => by cases h
 | n :: l, r, hl, h => by
  simp only [goL] at h
  split at h
  ·cases h
   exact refer_F hP hG (hl n (List.mem_cons_self ..))
  ·split at h
   ·cases h
   ·split at h
    ·rename_i r' hr
     cases h
     exact renamed_F hP hG hq hr
    ·exact go_F hP hG hq (fun x hx => hl x (List.mem_cons_of_mem _ hx)) h
theorem look_F (hP : ∀ r ∈ R, P r.dat) (hG : GoodR R) {q : Nm} {t : Int} (hq : NmM q) : ResF P R.length (lookL o R q t) := by
 unfold lookL
 split
 ·exact resF_plain nil_s (fun d h => by cases h) (Nat.zero_le _)
 ·split
  ·rename_i r hr
   refine go_F hP hG hq (fun n hn => ?_) hr
   unfold downs at hn
   split at hn
   ·obtain ⟨i, _, rfl⟩ := downF_mem.1 hn
    exact (hq.drop i).s
   ·cases hn
  ·split
   ·exact at_F hP hG
   ·split
    ·exact at_F hP hG
    ·exact resF_plain nil_s (fun d h => by cases h) (Nat.zero_le _)
end
theorem look_ok {R : List RecL} (h : GoodC R) {o q : Nm} {t : Int} (hq : NmM q) : ResOk (lookL o R q t) := by
 have h1 := look_F (o := o) (P := DatOk) (fun r hr => (h.ok r hr).dat) h.gd (t := t) hq
 have hl := h.len
 exact ⟨h1.nm, h1.dat, by have := h1.dl; omega, by have := h1.gl; omega, fun x hx => by
  obtain ⟨a, b, c⟩ := h1.g x hx
  exact ⟨a, b, by omega⟩⟩
structure ZoneL where
 o : Nm
 recs : List RecL
structure HostL where
 name : Nm
 addr : List UInt8
 zones : List ZoneL
structure NetL where
 hosts : List HostL
 roots : List Int
 rw : Int
 rf : Int
structure ZoneC (w : World) (cs : List Value) (z : ZoneL) : Prop where
 ex : ∃ ov lv, cs = [ov, lv] ∧ Row w ov (z.o.map vs) ∧ Rows 7 (RecAt w) w lv z.recs
structure HostC (w : World) (cs : List Value) (h : HostL) : Prop where
 ex : ∃ nv a b c d zv, cs = [nv, byteV a, byteV b, byteV c, byteV d, zv] ∧ h.addr = [a, b, c, d] ∧ Row w nv (h.name.map vs) ∧ Rows 2 (ZoneC w) w zv h.zones
structure NetAt (w : World) (cs : List Value) (N : NetL) : Prop where
 ex : ∃ hv rv, cs = [hv, rv, vi N.rw, vi N.rf] ∧ Rows 6 (HostC w) w hv N.hosts ∧ Row w rv (N.roots.map vi)
theorem Rows.extC {α : Type} {k : Nat} {C : World → List Value → α → Prop} {w x : World} {v : Value} {l : List α} (hC : ∀ cs a, C w cs a → C x cs a) (h : Rows k (C w) w v l) (hE : Ext w x) : Rows k (C x) x v l := (h.ext hE).to hC
theorem ZoneC.ext {w x : World} {cs : List Value} {z : ZoneL} (h : ZoneC w cs z) (hE : Ext w x) : ZoneC x cs z := by
 obtain ⟨ov, lv, e, h1, h2⟩ := h.ex
 exact ⟨ov, lv, e, h1.ext hE, Rows.extC (fun _ _ h => RecAt.ext h hE) h2 hE⟩
theorem HostC.ext {w x : World} {cs : List Value} {z : HostL} (h : HostC w cs z) (hE : Ext w x) : HostC x cs z := by
 obtain ⟨nv, a, b, c, d, zv, e, ha, h1, h2⟩ := h.ex
 exact ⟨nv, a, b, c, d, zv, e, ha, h1.ext hE, Rows.extC (fun _ _ h => ZoneC.ext h hE) h2 hE⟩
theorem NetAt.ext {w x : World} {cs : List Value} {z : NetL} (h : NetAt w cs z) (hE : Ext w x) : NetAt x cs z := by
 obtain ⟨hv, rv, e, h1, h2⟩ := h.ex
 exact ⟨hv, rv, e, Rows.extC (fun _ _ h => HostC.ext h hE) h1 hE, h2.ext hE⟩
structure GoodZ (z : ZoneL) : Prop where
 o : goodN z.o = true
 gd : GoodRs z.recs
 nv : NumR z.recs
 can : canonL z.recs = z.recs
theorem GoodZ.c {z : ZoneL} (h : GoodZ z) : GoodC z.recs := h.can ▸ good_canon h.gd h.nv
theorem GoodZ.m {z : ZoneL} (h : GoodZ z) : NmM z.o := (goodN_g h.o).m
theorem GoodZ.zn {w0 w : World} {ov lv : Value} {z : ZoneL} (h : GoodZ z) (hE : Ext w0 w) (ho : Row w ov (z.o.map vs)) (hl : Rows 7 (RecAt w0) w lv z.recs) : ZnAt w0 w ov lv z.o z.recs := good_zone h.c hE ho hl h.o
structure NetZ (N : NetL) : Prop where
 hl : N.hosts.length ≤ 1000
 nm : ∀ h ∈ N.hosts, NmM h.name
 zl : ∀ h ∈ N.hosts, h.zones.length ≤ 1000
 z : ∀ h ∈ N.hosts, ∀ z ∈ h.zones, GoodZ z
 rl : N.roots.length ≤ 1000
def NetL.zones (N : NetL) (s : Int) : List ZoneL := if s < 0 then [] else match N.hosts[s.toNat]? with
 | some h => h.zones
 | Option.none => []
def bestStep (q : Nm) (b : Int × Int) (x : Nat × ZoneL) : Int × Int := if under q x.2.o = true ∧ b.2 < (x.2.o.length : Int) then ((x.1 : Int), (x.2.o.length : Int)) else b
def numZ : Nat → List ZoneL → List (Nat × ZoneL)
 | _, [] => []
 | i, z :: l => (i, z) :: numZ (i + 1) l
def bestZ (q : Nm) (l : List ZoneL) : Int × Int := (numZ 0 l).foldl (bestStep q) (0, -1)
def bestN (N : NetL) (s : Int) (q : Nm) : Int × Bool := let b := bestZ q (N.zones s); (b.1, decide (0 ≤ b.2))
def askN (N : NetL) (s : Int) (q : Nm) (t : Int) : ResL := if (bestN N s q).2 = true then match (N.zones s)[(bestN N s q).1.toNat]? with
  | some z => lookL z.o z.recs q t
  | Option.none => ⟨7, [], [], false, []⟩
 else ⟨7, [], [], false, []⟩
theorem numZ_length : ∀ {l : List ZoneL} {i : Nat}, (numZ i l).length = l.length
 | [], _ => rfl
 | _ :: l, i => by simp [numZ, numZ_length (l := l)]
theorem numZ_get : ∀ {l : List ZoneL} {i j : Nat} (h : j < l.length) (h' : j < (numZ i l).length), (numZ i l)[j] = (i + j, l[j])
 | [], _, _, h, _ => absurd h (by simp)
 | _ :: l, i, 0, _, _ => by simp [numZ]
 | _ :: l, i, j + 1, h, h' => by
  simp only [numZ, List.getElem_cons_succ]
  rw [numZ_get (by simpa using h)]
  exact Prod.ext (by dsimp only; omega) rfl
theorem best_in (q : Nm) : ∀ {l : List (Nat × ZoneL)} {b : Int × Int} {m : Nat}, (∀ x ∈ l, x.1 < m) → ((0 ≤ b.2 → 0 ≤ b.1 ∧ b.1 < m)) → 0 ≤ (l.foldl (bestStep q) b).2 → 0 ≤ (l.foldl (bestStep q) b).1 ∧ (l.foldl (bestStep q) b).1 < m
 | [], b, m, _, h, h2 => h h2
 | x :: l, b, m, hx, h, h2 => by
  rw [List.foldl_cons] at h2 ⊢
  refine best_in q (fun y hy => hx y (List.mem_cons_of_mem _ hy)) (fun h3 => ?_) h2
  unfold bestStep at h3 ⊢
  split at h3
  ·rename_i hc
   rw [if_pos hc]
   have := hx x (List.mem_cons_self ..)
   exact ⟨by dsimp only; omega, by dsimp only; omega⟩
  ·rename_i hc
   rw [if_neg hc]; exact h h3
theorem bestN_in {N : NetL} {s : Int} {q : Nm} (h : (bestN N s q).2 = true) : 0 ≤ (bestN N s q).1 ∧ (bestN N s q).1 < ((N.zones s).length : Int) := by
 unfold bestN bestZ at *
 simp only [decide_eq_true_eq] at h
 refine best_in q (fun x hx => ?_) (fun h => absurd h (by decide)) h
 obtain ⟨i, hi, rfl⟩ := List.mem_iff_getElem.1 hx
 rw [numZ_get (by rw [numZ_length] at hi; exact hi)]
 have := hi
 rw [numZ_length] at this
 dsimp only; omega
theorem zones_good {N : NetL} (h : NetZ N) {s : Int} : (∀ z ∈ N.zones s, GoodZ z) ∧ (N.zones s).length ≤ 1000 := by
 unfold NetL.zones
 split
 ·exact ⟨fun z h => absurd h (by simp), by simp⟩
 ·cases hh : N.hosts[s.toNat]? with
  | none => exact ⟨fun z h => absurd h (by simp), by simp⟩
  | some x => exact ⟨h.z x (List.mem_of_getElem? hh), h.zl x (List.mem_of_getElem? hh)⟩
section
variable {P : Program} {x : World} {e : TypeId} {K : Value → World → Prop}
theorem sv_new {t : TypeId} {cur : Array Value} {l : List Value} (hl : l.length = cur.size) (h1 : ∀ v ∈ l, one v = true) (hs : tyS P t = l.length) (hi : (P.info? t).isSome = true)
  (hK : ∀ w', Ext x w' → w'.heap.size = x.heap.size + 1 → w'.heap[x.heap.size]? = some (.cells l.toArray e (0, 0)) → K undef w') : stK P t (.pointer (some ⟨x.heap.size, 0, Option.none⟩)) (.agg l.toArray) (x.alloc (.cells cur e (0, 0))) K := by
 have hB3 := new_block x (.cells cur e (0, 0))
 have hE4 := Ext.alloc x (.cells cur e (0, 0))
 have hs4 := new_size x (.cells cur e (0, 0))
 refine sv_all (P := P) (t := t) (l := l) hB3 hl h1 hs hi ?_
 intro w5 hs5 hB5 hk5
 exact hK w5 (Keep.to_ext hE4 rfl (fun b hb => by omega) hk5) (by omega) hB5
theorem Row.isOne {w : World} {v : Value} {l : List Value} (h : Row w v l) : one v = true := by
 obtain ⟨a, c, rfl, _⟩ := h; rfl
theorem Rows.isOne {α : Type} {k : Nat} {C : List Value → α → Prop} {w : World} {v : Value} {l : List α} (h : Rows k C w v l) : one v = true := by
 obtain ⟨a, c, rfl, _⟩ := h.open; rfl
theorem two_one {a b : Value} (ha : one a = true) (hb : one b = true) : ∀ v ∈ [a, b], one v = true := fun v h => by
 simp at h
 rcases h with rfl | rfl <;> assumption
end
def encZ (w0 : World) (x : Nat × ZoneL) (_ : World) (args : Array Value) : Prop := ∃ ov lv, args = #[vi x.1, .agg #[ov, lv]] ∧ Row w0 ov (x.2.o.map vs) ∧ Rows 7 (RecAt w0) w0 lv x.2.recs
theorem ext_toB {n0 : Nat} {C : Nat → Prop} {a b : World} (h : Ext a b) (hn : n0 ≤ a.heap.size) : KeepB n0 C a b := Keep.toB h hn (fun _ _ h => h.elim)
theorem zones_ok (w : World) {hv rv : Value} {s a b : Int} :
  Fn Tryz.prog 157 #[.agg #[hv, rv, vi a, vi b], vi s] w (fun v w' => v = .func (.func 197) #[] #[.pointer (some ⟨w.heap.size + 1, 0, Option.none⟩), .pointer (some ⟨w.heap.size, 0, Option.none⟩)] ∧ Ext w w' ∧ w'.heap.size = w.heap.size + 2 ∧
   w'.heap[w.heap.size]? = some (.cells #[hv, rv, vi a, vi b] 65 (0, 0)) ∧ w'.heap[w.heap.size + 1]? = some (.cells #[vi s] 3 (0, 0))) := by
 refine enter Tryz.func157 Tryz.ntmps157 rfl rfl ?_
 repeat refine c_r ?_
 refine rg0 ?_
 repeat refine c_r ?_
 rw [new_size]
 refine W_alloc2 ?_
 intro w1 hE1 hs1 hA hC
 refine rg0 ?_
 repeat refine c_r ?_
 refine rt0 Tryz.ntmps157 ?_
 exact ⟨rfl, hE1, hs1, hA, hC⟩
theorem zonesIt {w0 W0 : World} {C : Nat → Prop} {sb nb : Nat} {hv rv : Value} {s : Int} {N : NetL} (hE0 : Ext w0 W0) (hbs : W0.heap[sb]? = some (.cells #[vi s] 3 (0, 0))) (hbn : W0.heap[nb]? = some (.cells #[hv, rv, vi N.rw, vi N.rf] 65 (0, 0)))
  (hh : Rows 6 (HostC w0) w0 hv N.hosts) (hC : ∀ b, C b → w0.heap.size ≤ b) (hN : NetZ N) :
  Iter Tryz.prog 197 #[.pointer (some ⟨sb, 0, Option.none⟩), .pointer (some ⟨nb, 0, Option.none⟩)] W0 W0.heap.size C (numZ 0 (N.zones s)) (encZ w0) := by
 intro lp J Jx W hW hnW hJ hJx hY h0
 obtain ⟨ah, ch, rfl, hch, hgh⟩ := hh.open
 have hl := hN.hl
 have ps : cellO W (some ⟨sb, 0, Option.none⟩) = some (vi s) := cellO_ext hW (cellO_at hbs rfl)
 have pn : cellO W (some ⟨nb, 0, Option.none⟩) = some (.slice ah N.hosts.length ch) := cellO_ext hW (cellO_at hbn rfl)
 refine enter Tryz.func197 Tryz.ntmps197 rfl rfl ?_
 repeat refine c_r ?_
 by_cases h1 : s < 0
 ·refine rgg [(2, 8)] (an3 ps (decide_eq_true h1) Nat.add_zero) ?_
  repeat refine c_r ?_
  refine wt trivial ?_
  repeat refine c_r ?_
  refine ret_none (by simp) rfl (.inl ?_)
  unfold NetL.zones
  rw [if_pos h1]; exact h0
 by_cases h2 : (N.hosts.length : Int) ≤ s
 ·refine rgg [(2, 8)] (an5 ps pn (decide_eq_false h1) (decide_eq_true h2) Nat.add_zero) ?_
  repeat refine c_r ?_
  refine wt trivial ?_
  repeat refine c_r ?_
  refine ret_none (by simp) rfl (.inl ?_)
  unfold NetL.zones
  rw [if_neg h1, List.getElem?_eq_none (by omega)]; exact h0
 refine rgg [(2, 8)] (an5 ps pn (decide_eq_false h1) (decide_eq_false h2) Nat.add_zero) ?_
 repeat refine c_r ?_
 refine wf trivial ?_
 obtain ⟨i0, rfl⟩ : ∃ i : Nat, s = i := ⟨s.toNat, by omega⟩
 have hi0 : i0 < N.hosts.length := by omega
 obtain ⟨hcs, hhc, hhC⟩ := hgh i0 hi0
 obtain ⟨h, hhe⟩ : ∃ h, N.hosts[i0] = h := ⟨_, rfl⟩
 rw [hhe] at hhC
 obtain ⟨nv, b1, b2, b3, b4, zv, rfl, _, hnm, hz⟩ := hhC.ex
 have hzl : N.zones (i0 : Int) = h.zones := by
  unfold NetL.zones
  rw [if_neg h1, Int.toNat_natCast, List.getElem?_eq_getElem hi0, hhe]
 have hzb : h.zones.length ≤ 1000 := hN.zl h (hhe ▸ List.getElem_mem hi0)
 rw [hzl] at hY ⊢
 obtain ⟨az, cz, rfl, hcz, hgz⟩ := hz.open
 obtain ⟨xh, rfl⟩ := Option.isSome_iff_exists.1 (cellsO_some hhc)
 obtain ⟨xi, hxi⟩ : ∃ xi, adr (some xh) (i0 * 6) = some xi := ⟨_, rfl⟩
 rw [hxi] at hhc
 have pz : cellO W (adr (some xi) 5) = some (.slice az h.zones.length cz) := cell_of_cells (cellsO_ext (hE0.trans hW) hhc) rfl
 obtain ⟨x5, hx5⟩ : ∃ x, adr (some xi) 5 = some x := ⟨_, rfl⟩
 rw [hx5] at pz
 have hi0' : (0 : Int) ≤ (i0 : Int) := by omega
 have hi1' : (i0 : Int) < (N.hosts.length : Int) := by omega
 repeat refine c_r ?_
 refine rg8 ps pn hi0' hi1' hxi hx5 pz Nat.add_zero ?_
 repeat refine c_r ?_
 obtain ⟨L, hL⟩ : ∃ L, numZ 0 h.zones = L := ⟨_, rfl⟩
 have hLl : L.length = h.zones.length := by rw [← hL, numZ_length]
 rw [hL] at hY ⊢
 refine W_loop (fun m σ ds v => ds = [] ∧ ∃ (i : Nat), i + m = L.length ∧ σ 22 = vi i ∧ σ 21 = vi h.zones.length ∧ σ 20 = .slice az h.zones.length cz ∧ σ 0 = .func (.yield lp) #[] #[] ∧ J (L.take i) v ∧ KeepB W0.heap.size C W v) L.length ?_ ?_
 ·exact ⟨rfl, 0, by omega, vr0, vq0, vq0, vq0, h0, KeepB.refl _ _ _⟩
 rintro m σ ds v ⟨rfl, i, him, s22, s21, s20, s0, hj, hKB⟩
 repeat refine c_r ?_
 refine rg2 s22 s21 ?_
 repeat refine c_r ?_
 refine wc0 ?_ ?_
 ·intro hlt
  simp only [decide_eq_true_eq] at hlt
  have hi : i < h.zones.length := by omega
  have hi0 : (0 : Int) ≤ (i : Int) := by omega
  have hi1' : (i : Int) + 1 = ((i + 1 : Nat) : Int) := by push_cast; rfl
  obtain ⟨cs, hcs, hZ⟩ := hgz i hi
  obtain ⟨ov, lv, rfl, ho, hr⟩ := hZ.ex
  obtain ⟨xz, rfl⟩ := Option.isSome_iff_exists.1 (cellsO_some hcs)
  obtain ⟨xi, hxi⟩ : ∃ xi, adr (some xz) (i * 2) = some xi := ⟨_, rfl⟩
  rw [hxi] at hcs
  have hEv : Ext w0 v := keepB_ext (hE0.trans hW) hKB hE0.size hC
  have d := cellsO_ext hEv hcs
  have hLi : L[i]'(by omega) = (i, h.zones[i]) := by
   simp only [← hL]
   rw [numZ_get hi]; simp
  repeat refine c_r ?_
  refine rq ?_; intro gd K hgd hK
  try simp (disch := first | omega | assumption | rfl) only [↓reduceIte, go_sem, Nat.reduceLT, Nat.reduceEqDiff, Nat.reduceSub, s22, s20, hi0, hlt, hxi, d]
  refine sv_new (P := Tryz.prog) (l := [ov, lv]) rfl (two_one ho.isOne hr.isOne) rfl rfl ?_
  intro v1 hE1 hs1 hB1
  try simp (disch := first | omega | assumption | rfl) only [↓reduceIte, go_sem, Nat.reduceLT, Nat.reduceEqDiff, Nat.reduceSub]
  refine hK _ _ ?_; clear hK hgd; clear K; try clear gd
  have d1 := sv_cells (n := 2) hB1 rfl
  repeat refine c_r ?_
  refine rq ?_; intro gd K hgd hK
  try simp (disch := first | omega | assumption | rfl) only [↓reduceIte, go_sem, Nat.reduceLT, Nat.reduceEqDiff, Nat.reduceSub, s0, d1]
  refine Yld.mono (hY (L.take i) (L[i]'(by omega)) (L.drop (i + 1)) v1 _ (by rw [← List.drop_eq_getElem_cons, List.take_append_drop]) (hJ _ _ _ hj hE1) (hKB.trans (ext_toB hE1 (by have := hKB.size; omega))) ⟨ov, lv, by rw [hLi], by rw [hLi]; exact ho, by rw [hLi]; exact hr⟩) ?_
  rintro u x (⟨rfl, hj', hk'⟩ | ⟨rfl, hjx⟩)
  ·try simp (disch := first | omega | assumption | rfl) only [↓reduceIte, go_sem, Nat.reduceLT, Nat.reduceEqDiff, Nat.reduceSub]
   refine hK _ _ ?_; clear hK hgd; clear K; try clear gd
   repeat refine c_r ?_
   refine wc0 ?_ ?_
   ·intro h; simp at h
   ·intro _
    repeat refine c_r ?_
    refine rg2 s22 hi1' ?_
    repeat refine c_r ?_
    exact ⟨m - 1, by omega, rfl, i + 1, by omega, vq0, (vq1 s21), (vq1 s20), (vq1 s0), by rw [← List.take_append_getElem (by omega)] at *; exact hj', (hKB.trans (ext_toB hE1 (by have := hKB.size; omega))).trans hk'⟩
  ·try simp (disch := first | omega | assumption | rfl) only [↓reduceIte, go_sem, Nat.reduceLT, Nat.reduceEqDiff, Nat.reduceSub]
   refine hK _ _ ?_; clear hK hgd; clear K; try clear gd
   repeat refine c_r ?_
   refine wc0 ?_ ?_
   ·intro _
    repeat refine c_r ?_
    refine ret_none (by simp) rfl (.inr ⟨_, _, L.drop (i + 1), ?_, hjx⟩)
    rw [← List.drop_eq_getElem_cons, List.take_append_drop]
   ·intro h; simp at h
 ·intro hge
  simp only [decide_eq_false_iff_not] at hge
  repeat refine c_r ?_
  refine ret_none (by simp) rfl (.inl ?_)
  rwa [List.take_of_length_le (by omega)] at hj
theorem cellsV_take {w : World} {a : Addr} : ∀ (i m k : Nat) {l : List Value}, cellsV w a i (m + k) = some l → cellsV w a i m = some (l.take m)
 | i, 0, k, l, h => by simp [cellsV]
 | i, m + 1, k, l, h => by
  rw [show m + 1 + k = (m + k) + 1 from by omega] at h
  unfold cellsV at h ⊢
  split at h
  ·rename_i v l' h1 h2
   cases h
   rw [h1, cellsV_take (i + 1) m k h2]; rfl
  ·cases h
theorem cells_take {w : World} {p : Option Addr} {m k : Nat} {l : List Value} (h : cellsO w p (m + k) = some l) : cellsO w p m = some (l.take m) := by
 cases p with
 | none => cases h
 | some a => exact cellsV_take 0 m k h
section
variable {P : Program} {w : World} {K : Value → World → Prop} {t : TypeId} {p v : Value} {A B : Obj}
theorem st_al1 (h : ∀ z, Ext w z → z.heap.size = w.heap.size + 1 → z.heap[w.heap.size]? = some A → stK P t p v z K) : stK P t p v (w.alloc A) K :=
 h _ (Ext.alloc w A) (new_size w A) (World.alloc_heap_new w A)
theorem st_al2 (h : ∀ z, Ext w z → z.heap.size = w.heap.size + 2 → z.heap[w.heap.size]? = some A → z.heap[w.heap.size + 1]? = some B → stK P t p v z K) : stK P t p v ((w.alloc A).alloc B) K := by
 obtain ⟨h1, h2, h3, h4⟩ := alloc_two w A B
 exact h _ h1 h2 h3 h4
end
section
variable {P : Program} {d : Option Tmp} {ty : TypeId} {ps : String} {af : Array Edge} {g : Option (Nat × Bool)} {ρ : Operand → Value} {w : World} {K : Value → World → Prop}
theorem op_slA {t e : TypeId} {x : Operand} {n : Nat} {a : Addr} {m : Lck K (opW P ⟨d, .slice t x Option.none Option.none Option.none, ty, ps, af, g⟩ ρ w K)} (ht : P.underlying t = some (.array n e)) (hn : n ≠ 0) (he : (P.info? e).isSome = true)
  (hx : ρ x = .pointer (some a)) (h : K (.slice (some a) n n) w) : optL (slD P (some (.array n e)) (.pointer (some a)) Option.none Option.none Option.none) w K (opW P ⟨d, .slice t x Option.none Option.none Option.none, ty, ps, af, g⟩ ρ w K) m := by
 show opW P _ ρ w K
 obtain ⟨inf, hi⟩ := Option.isSome_iff_exists.1 he
 refine opR_val (s := Instr.sliceAt t (ρ x) Option.none Option.none Option.none) (v := .slice (some a) n n) (w' := w) ?_ h
 have e1 := sliceBounds_run (P := P) (w := w) (sl := false) (n := n) (c := n) (lo := Option.none) (hi := Option.none) (mx := Option.none) (l := 0) (h := n) (m := n) rfl rfl rfl (Nat.zero_le _) (Nat.le_refl _) (Nat.le_refl _) (by simp)
 have ha0 : a.add 0 = a := by simp [Addr.add]
 simp [Instr.sliceAt, underlying, program, Sem.run, ht, hx, Instr.sureAddr, e1, sizeOf, typeInfo, hi, hn, ha0]
end
theorem NetAt.one {w : World} {cs : List Value} {N : NetL} (h : NetAt w cs N) : cs.length = 4 ∧ ∀ v ∈ cs, one v = true := by
 obtain ⟨hv, rv, rfl, h1, h2⟩ := h.ex
 refine ⟨rfl, fun v hv => ?_⟩
 simp at hv
 rcases hv with rfl | rfl | rfl | rfl
 ·exact h1.isOne
 ·exact h2.isOne
 ·rfl
 ·rfl
set_option maxHeartbeats 1000000 in
theorem Best_ok {w0 w : World} (hE0 : Ext w0 w) {cs : List Value} {N : NetL} {s : Int} {q : Nm} {qv : Value} (hN : NetAt w0 cs N) (hG : NetZ N) (hq : Row w qv (q.map vs)) (mq : NmM q) :
  Fn Tryz.prog 106 #[.agg cs.toArray, vi s, qv] w (fun v w' => v = .tuple #[vi (bestN N s q).1, .bool (bestN N s q).2] ∧ Ext w w') := by
 obtain ⟨hv, rv, rfl, hh, hr⟩ := hN.ex
 have e1 := hh.isOne
 have e2 := hr.isOne
 obtain ⟨ah, ch, hhv, _⟩ := hh.open
 obtain ⟨ar, cr, hrv, _⟩ := id hr
 obtain ⟨aq, cq, hqv, _⟩ := id hq
 have ql := mq.len
 refine enter Tryz.func106 Tryz.ntmps106 rfl rfl ?_
 repeat refine c_r ?_
 rw [hhv, hrv, hqv]
 refine rg0 ?_
 rw [← hhv, ← hrv, ← hqv]
 repeat refine c_r ?_
 rw [new_size]
 refine W_alloc2 ?_
 intro w1 hE1 hs1 hA hC
 refine rq ?_; intro gd K hgd hK
 try simp (disch := first | omega | assumption | rfl) only [↓reduceIte, go_sem, Nat.reduceLT, Nat.reduceEqDiff, Nat.reduceSub]
 rw [new_size]
 refine st_al2 ?_
 intro w2 hE2 hs2 h8 h9
 refine sv_at (P := Tryz.prog) (t := 3) (j := 0) (u := vi 0) (l := [vi 0]) h8 (by simp) rfl rfl rfl ?_
 intro w3 hs3 h8' hk3
 try simp (disch := first | omega | assumption | rfl) only [↓reduceIte, go_sem, Nat.reduceLT, Nat.reduceEqDiff, Nat.reduceSub]
 refine sv_at (P := Tryz.prog) (t := 3) (j := 0) (u := vi (-1)) (l := [vi 0]) ((hk3.block _ (by omega) (by omega)).trans h9) (by simp) rfl rfl rfl ?_
 intro w4 hs4 h9' hk4
 try simp (disch := first | omega | assumption | rfl) only [↓reduceIte, go_sem, Nat.reduceLT, Nat.reduceEqDiff, Nat.reduceSub]
 refine hK _ _ ?_; clear hK hgd; clear K; try clear gd
 simp only [List.set_cons_zero] at h8' h9'
 obtain ⟨b8, hb8⟩ : ∃ b, w1.heap.size = b := ⟨_, rfl⟩
 rw [hb8] at h8 h8' h9 h9' hk3 hk4 hs2 ⊢
 have hE3 := Keep.to_ext (hE1.trans hE2) rfl (fun b hb => by omega) hk3
 have hE4 := Keep.to_ext hE3 rfl (fun b hb => by omega) hk4
 have g8 := (hk4.block _ (by omega) (by omega)).trans h8'
 have gA := (hk4.block _ (by omega) (by omega)).trans ((hk3.block _ (by omega) (by omega)).trans (Ext.at hE2 hA))
 have gC := (hk4.block _ (by omega) (by omega)).trans ((hk3.block _ (by omega) (by omega)).trans (Ext.at hE2 hC))
 clear h8 h8' h9 hk3 hk4 hE3 hE2 hE1 hA hC
 have d4 := sv_cells (n := 4) (l := [hv, rv, vi N.rw, vi N.rf]) gA rfl
 have p5 : cellO w4 (some ⟨w.heap.size + 1, 0, Option.none⟩) = some qv := cellO_at gC rfl
 have hb8w : w.heap.size + 2 ≤ b8 := by omega
 repeat refine c_r ?_
 refine rc d4 (zones_ok w4) ?_
 rintro _ w5 ⟨rfl, hE5, hs5, hbn, hbs⟩
 refine re trivial ?_
 repeat refine c_r ?_
 have hE05 := hE0.trans (hE4.trans hE5)
 refine W_range (g := 197) (cap := #[.pointer (some ⟨w4.heap.size + 1, 0, Option.none⟩), .pointer (some ⟨w4.heap.size, 0, Option.none⟩)]) (vq0) rfl (zonesIt (C := fun b => b = b8 ∨ b = b8 + 1) hE05 hbs hbn hh (fun b hb => by have := hE0.size; omega) hG) (Keep.refl _ _) (Nat.le_refl _) (fun b hb => by omega) (fun x A args h => by obtain ⟨_, _, e, _⟩ := h; rw [e]; rfl)
  (fun pre A => Ext w A ∧ A.heap[b8]? = some (.cells #[vi (pre.foldl (bestStep q) (0, -1)).1] 3 (0, 0)) ∧ A.heap[b8 + 1]? = some (.cells #[vi (pre.foldl (bestStep q) (0, -1)).2] 3 (0, 0)) ∧ A.heap[w.heap.size + 1]? = some (.cells #[qv] 23 (0, 0)))
  (fun _ _ _ => False) ?_ (fun _ _ _ _ h _ => h.elim) ?_ ?_ ?_ (fun _ _ _ _ _ _ _ h _ => h.elim)
 ·rintro pre A B ⟨h1, h2, h3, h4⟩ hk
  have f : ∀ {b : Nat} {O : Obj}, A.heap[b]? = some O → b < w5.heap.size → B.heap[b]? = some O := fun h hb => (hk.block _ (Array.getElem?_eq_some_iff.1 h).1 (by unfold two; omega)).trans h
  exact ⟨Keep.to_ext h1 rfl (fun b hb => by unfold two at hb; omega) hk, f h2 (by omega), f h3 (by omega), f h4 (by omega)⟩
 ·exact ⟨hE4.trans hE5, Ext.at hE5 g8, Ext.at hE5 h9', Ext.at hE5 gC⟩
 ·rintro lp pre y suf A args hxs hszA ⟨hEA, k8, k9, k5⟩ ⟨ov, lv, rfl, ho, hr⟩
  obtain ⟨B, hB⟩ : ∃ B, pre.foldl (bestStep q) (0, -1) = B := ⟨_, rfl⟩
  have hfo : (pre ++ [y]).foldl (bestStep q) (0, -1) = bestStep q B y := by rw [List.foldl_append, List.foldl_cons, List.foldl_nil, hB]
  rw [hB] at k8 k9
  have gz : GoodZ y.2 := by
   have hm : y ∈ numZ 0 (N.zones s) := hxs ▸ (by simp)
   obtain ⟨i, hi, rfl⟩ := List.mem_iff_getElem.1 hm
   have hi' := hi
   rw [numZ_length] at hi'
   rw [numZ_get hi']
   exact (zones_good hG).1 _ (List.getElem_mem hi')
  have mo := gz.m
  have ol := mo.len
  repeat (first | refine c_r ?_ | refine rg0 ?_)
  refine rq ?_; intro gd K hgd hK
  try simp (disch := first | omega | assumption | rfl) only [↓reduceIte, go_sem, Nat.reduceLT, Nat.reduceEqDiff, Nat.reduceSub]
  refine sv_new (P := Tryz.prog) (l := [ov, lv]) rfl (two_one ho.isOne hr.isOne) rfl rfl ?_
  intro A1 hE6 hs6 hB6
  try simp (disch := first | omega | assumption | rfl) only [↓reduceIte, go_sem, Nat.reduceLT, Nat.reduceEqDiff, Nat.reduceSub]
  refine hK _ _ ?_; clear hK hgd; clear K; try clear gd
  refine thenQ_normal ?_
  refine ⟨rfl, ext_toB hE6 (by omega), fun Y hY => ?_⟩
  have f : ∀ {b : Nat} {O : Obj}, A1.heap[b]? = some O → ¬ two w5.heap.size b → Y.heap[b]? = some O := fun h hb => (hY.block _ (Array.getElem?_eq_some_iff.1 h).1 hb).trans h
  have y8 := f (Ext.at hE6 k8) (by unfold two; omega)
  have y9 := f (Ext.at hE6 k9) (by unfold two; omega)
  have y5 := f (Ext.at hE6 k5) (by unfold two; omega)
  have y6 := f hB6 (by unfold two; omega)
  have hEY : Ext w Y := Keep.to_ext (hEA.trans hE6) rfl (fun b hb => by unfold two at hb; omega) hY
  have hsY := hY.size
  have q8 : cellO Y (some ⟨b8, 0, Option.none⟩) = some (vi B.1) := cellO_at y8 rfl
  have q9 : cellO Y (some ⟨b8 + 1, 0, Option.none⟩) = some (vi B.2) := cellO_at y9 rfl
  have q5 : cellO Y (some ⟨w.heap.size + 1, 0, Option.none⟩) = some qv := cellO_at y5 rfl
  have q6 : cellO Y (some ⟨A.heap.size, 0, Option.none⟩) = some ov := cellO_at y6 rfl
  obtain ⟨ao, co, hov, _⟩ := id ho
  have holen : (y.2.o.map vs).length = y.2.o.length := by simp
  rw [holen] at hov
  clear y5 y6
  repeat refine c_r ?_
  refine rcg [(4, 21)] (an3 q5 q6 Nat.add_zero) (Under_ok Y qv ov q y.2.o (hq.ext hEY) (ho.ext (hE0.trans hEY)) mq.LB mo.LB (by omega) (by omega)) ?_
  rintro _ Z ⟨rfl, hZ⟩
  have z6 := cellO_ext hZ q6
  have z9 := cellO_ext hZ q9
  rw [hov] at z6
  have hEZ := hEY.trans hZ
  have z8' := Ext.at hZ y8
  have z9' := Ext.at hZ y9
  have z5' := Ext.at hZ (f (Ext.at hE6 k5) (by unfold two; omega))
  have hkZ : KeepB (w5.heap.size + 2) (fun b => b = b8 ∨ b = b8 + 1) Y Z := ext_toB hZ (by omega)
  obtain ⟨u, hu⟩ : ∃ u, under q y.2.o = u := ⟨_, rfl⟩
  rw [hu]
  have hstay : (u = true ∧ B.2 < (y.2.o.length : Int)) ∨ bestStep q B y = B := by
   by_cases h : u = true ∧ B.2 < (y.2.o.length : Int)
   ·exact .inl h
   ·exact .inr (by unfold bestStep; rw [hu, if_neg h])
  cases u with
  | false =>
   have hst : bestStep q B y = B := hstay.resolve_left (fun h => by cases h.1)
   refine reg [(4, 21)] trivial ?_
   repeat refine c_r ?_
   refine wf trivial ?_
   repeat refine c_r ?_
   refine ⟨⟨hEZ, ?_, ?_, z5'⟩, hkZ⟩
   ·rw [hfo, hst]; exact z8'
   ·rw [hfo, hst]; exact z9'
  | true =>
   refine reg [(4, 21)] (an3 z6 z9 Nat.add_zero) ?_
   repeat refine c_r ?_
   by_cases hgt : B.2 < (y.2.o.length : Int)
   ·refine wt (decide_eq_true hgt) ?_
    have hst : bestStep q B y = ((y.1 : Int), (y.2.o.length : Int)) := by unfold bestStep; rw [hu, if_pos ⟨rfl, hgt⟩]
    repeat refine c_r ?_
    refine W_drw (fun i => i == 5) [(0, true), (1, true), (2, true), (3, true), (4, false), (5, false)] ((fun i => i = b8 ∨ i = b8 + 1)) mixed (by kernel_rfl) ?_; intro gd K x hgd hx hxe hK; have hx0 := drewX hxe; clear hxe
    have z6x := cellO_ext hx0 z6
    have hsZ := hZ.size
    have hsx := hx0.size
    simp (disch := first | omega | assumption | rfl) only [↓reduceIte, go_sem, Nat.reduceLT, Nat.reduceEqDiff, Nat.reduceSub, z6x, Nat.add_zero]
    refine ⟨fun a ha hb => by cases ha; dsimp only at hb; omega, ?_⟩
    refine sv_at (P := Tryz.prog) (t := 3) (j := 0) (u := vi y.1) (l := [vi B.1]) (Ext.at hx0 z8') (by simp) rfl rfl rfl ?_
    intro Z1 hsZ1 h8' hkZ1
    refine ⟨.inr (hkZ1.mono fun i _ h => .inl h), ?_⟩
    simp (disch := first | omega | assumption | rfl) only [↓reduceIte, go_sem, Nat.reduceLT, Nat.reduceEqDiff, Nat.reduceSub]
    refine sv_at (P := Tryz.prog) (t := 3) (j := 0) (u := vi y.2.o.length) (l := [vi B.2]) ((hkZ1.block _ (by omega) (by omega)).trans (Ext.at hx0 z9')) (by simp) rfl rfl rfl ?_
    intro Z2 hsZ2 h9' hkZ2
    refine ⟨.inl rfl, ?_⟩
    simp (disch := first | omega | assumption | rfl) only [↓reduceIte, go_sem, Nat.reduceLT, Nat.reduceEqDiff, Nat.reduceSub]
    refine hK _ _ ?_; clear hK hgd; clear K; try clear gd
    have z5x := Ext.at hx0 z5'
    repeat refine c_r ?_
    refine ⟨⟨Keep.to_ext (Keep.to_ext (hEZ.trans hx0) rfl (fun b hb => by omega) hkZ1) rfl (fun b hb => by omega) hkZ2, ?_, ?_, ?_⟩, (hkZ.trans (ext_toB hx0 (by omega))).trans ((hkZ1.toB (by omega) (fun i _ h => .inl h)).trans (hkZ2.toB (by omega) (fun i _ h => .inr h)))⟩
    ·rw [hfo, hst]; exact (hkZ2.block _ (by omega) (by omega)).trans h8'
    ·rw [hfo, hst]; exact h9'
    ·exact (hkZ2.block _ (by omega) (by omega)).trans ((hkZ1.block _ (by omega) (by omega)).trans z5x)
   ·refine wf (decide_eq_false hgt) ?_
    have hst : bestStep q B y = B := hstay.resolve_left (fun h => hgt h.2)
    repeat refine c_r ?_
    refine ⟨⟨hEZ, ?_, ?_, z5'⟩, hkZ⟩
    ·rw [hfo, hst]; exact z8'
    ·rw [hfo, hst]; exact z9'
 ·intro A hszA ⟨hEA, k8, k9, _⟩ hD
  have q8 : cellO A (some ⟨b8, 0, Option.none⟩) = some (vi (bestZ q (N.zones s)).1) := cellO_at k8 rfl
  have q9 : cellO A (some ⟨b8 + 1, 0, Option.none⟩) = some (vi (bestZ q (N.zones s)).2) := cellO_at k9 rfl
  repeat refine c_r ?_
  refine W_drw (fun _ => false) [(0, true), (1, true), (2, true), (3, true), (4, true)] NoS mixed (by kernel_rfl) ?_; intro gd K x hgd hx hxe hK; clear hxe
  have q8x := cellO_ext hx q8
  have q9x := cellO_ext hx q9
  simp (disch := first | omega | assumption | rfl) only [↓reduceIte, go_sem, Nat.reduceLT, Nat.reduceEqDiff, Nat.reduceSub, q8x, q9x]
  refine hK _ _ ?_; clear hK hgd; clear K; try clear gd
  repeat refine c_r ?_
  refine ret_mark2 (v := vi (bestN N s q).1) (v' := .bool (bestN N s q).2) (.inr rfl) (by rfl) Tryz.ntmps106 (vr0) (vr0) (Ext.at hx hD) ?_
  intro Z hkZ hsZ
  exact ⟨rfl, Keep.to_ext (hEA.trans hx) rfl (fun b hb => by omega) hkZ⟩
theorem Serves_ok {w0 w : World} (hE0 : Ext w0 w) {cs : List Value} {N : NetL} {s : Int} {q : Nm} {qv : Value} (hN : NetAt w0 cs N) (hG : NetZ N) (hq : Row w qv (q.map vs)) (mq : NmM q) :
  Fn Tryz.prog 41 #[.agg cs.toArray, vi s, qv] w (fun v w' => v = .bool (bestN N s q).2 ∧ Ext w w') := by
 have hN0 := hN
 obtain ⟨hv, rv, rfl, hh, hr⟩ := hN.ex
 obtain ⟨ah, ch, hhv, _⟩ := hh.open
 obtain ⟨ar, cr, hrv, _⟩ := id hr
 refine enter Tryz.func41 Tryz.ntmps41 rfl rfl ?_
 repeat refine c_r ?_
 rw [hhv, hrv]
 refine rg0 ?_
 rw [← hhv, ← hrv]
 repeat refine c_r ?_
 refine W_alloc1 ?_
 intro w1 hE1 hs1 hA
 have d := sv_cells (n := 4) (l := [hv, rv, vi N.rw, vi N.rf]) hA rfl
 repeat refine c_r ?_
 refine rc d (Best_ok (s := s) (hE0.trans hE1) hN0 hG (hq.ext hE1) mq) ?_
 rintro _ w2 ⟨rfl, hE2⟩
 refine re trivial ?_
 repeat refine c_r ?_
 refine rg0 ?_
 repeat refine c_r ?_
 refine rt0 Tryz.ntmps41 ?_
 exact ⟨rfl, hE1.trans hE2⟩
end Go.Proofs.YtopbbjdembnfdaaGreat
