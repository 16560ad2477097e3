/-
  Texts of a proof, joined: X8.
  Conditions: none.
-/
import Derived.Test.YtopbbjdembnfdaaGreatJP13
import Derived.Test.YtopbbjdembnfdaaGreatJP15
set_option linter.unusedVariables false
set_option linter.unusedSimpArgs false
set_option linter.defProp false
set_option linter.unnecessarySimpa false
namespace Go.Proofs.YtopbbjdembnfdaaGreat
open Go
set_option maxRecDepth 10000
set_option maxHeartbeats 4000000 in
theorem StepFolds_ok (hkn : Known20) (W : World) {cs sc : List Value} {N : NetL} {s : StateL} {t : Int} (hN : NetAt W cs N) (hv : NumN N) (hs : StC W sc s) :
  Fn Tryz.prog 11 #[.agg cs.toArray, .agg sc.toArray, vi t] W (fun v w' => v = .bool true ∧ Ext W w') := by
 have hN0 := hN
 have hs0 := hs
 obtain ⟨hsv, rv, rfl, hh, hr⟩ := hN.ex
 obtain ⟨nv, rfl, hnm⟩ := hs.ex
 obtain ⟨ah, ch, hhv, _⟩ := hh.open
 obtain ⟨ar, cr, hrv, _⟩ := id hr
 obtain ⟨an, cn, hnv, _⟩ := id hnm
 unfold stV
 refine enter Tryz.func11 Tryz.ntmps11 rfl rfl ?_
 repeat refine c_r ?_
 rw [hhv, hrv, hnv]
 refine rg0 ?_
 rw [← hhv, ← hrv, ← hnv]
 repeat refine c_r ?_
 rw [new_size]
 refine W_alloc2 ?_
 intro w1 hE1 hs1 hA hB
 have dN : cellsO w1 (some ⟨W.heap.size, 0, Option.none⟩) 4 = some [hsv, rv, vi N.rw, vi N.rf] := sv_cells hA rfl
 have dS : cellsO w1 (some ⟨W.heap.size + 1, 0, Option.none⟩) 6 = some (stV nv s) := sv_cells hB rfl
 have p1 : cellO w1 (some ⟨W.heap.size + 1, 1, Option.none⟩) = some nv := cellO_at hB rfl
 repeat refine c_r ?_
 refine rc trivial (hkn w1) ?_
 rintro _ w2 ⟨rfl, hE2⟩
 refine re trivial ?_
 repeat refine c_r ?_
 refine wf trivial ?_
 have dN2 := cellsO_ext hE2 dN
 have dS2 := cellsO_ext hE2 dS
 have hE12 := hE1.trans hE2
 repeat refine c_r ?_
 refine W_mono (Q := fun e σ' ds' v' => e = .normal ∧ ds' = [] ∧ σ' 2 = vi t ∧ σ' 3 = .pointer (some ⟨W.heap.size, 0, Option.none⟩) ∧ σ' 4 = .pointer (some ⟨W.heap.size + 1, 0, Option.none⟩) ∧ Ext w2 v' ∧ ∃ bb, σ' 21 = .bool bb ∧ (bb = false → GoodNet N ∧ GoodSt N s)) ?_ ?_
 ·refine rcg [(3, 16)] dN2 (Good16_ok w2 (hN0.ext hE12) hv) ?_
  rintro _ w3 ⟨hE3, b, rfl, hb⟩
  cases b with
  | false =>
   refine reg [(3, 16)] Bool.not_false ?_
   exact ⟨rfl, rfl, vq0, vq0, vq0, hE3, _, vr0, fun h => by cases h⟩
  | true =>
   refine rdg [(3, 16)] (an3 (cellsO_ext hE3 dN2) (cellsO_ext hE3 dS2) Bool.not_true) (good20_ok (hE12.trans hE3) hN0 (hs0.ext (hE12.trans hE3))) ?_
   rintro _ w4 ⟨rfl, hE4⟩
   refine reg [(3, 16)] trivial ?_
   exact ⟨rfl, rfl, vq0, vq0, vq0, hE3.trans hE4, _, vr0, fun h => ⟨hb rfl, goodS_iff.1 (by simpa using h)⟩⟩
 rintro _ σ1 _ w3 ⟨rfl, rfl, s2, s3, s4, hE3, bb, s21, hbb⟩
 have hE13 := hE12.trans hE3
 repeat refine c_r ?_
 cases bb with
 | true =>
  refine wt s21 ?_
  repeat (first | refine c_r ?_ | refine rg0 ?_)
  refine rt0 Tryz.ntmps11 ?_
  exact ⟨rfl, hE13⟩
 | false =>
 refine wf s21 ?_
 obtain ⟨gN, gS⟩ := hbb rfl
 clear hbb s21
 have dN3 := cellsO_ext hE3 dN2
 have dS3 := cellsO_ext hE3 dS2
 have p13 := cellO_ext (hE2.trans hE3) p1
 have n1 := hnm.isOne
 have mq := (goodN_g gS.nm).m
 have ql := mq.len
 repeat refine c_r ?_
 refine rq ?_; intro gd K hgd hK
 try simp (disch := first | omega | assumption | rfl) only [↓reduceIte, go_sem, Nat.reduceLT, Nat.reduceEqDiff, Nat.reduceSub, s4, dS3]
 refine sv_new (P := Tryz.prog) (l := stV nv s) rfl (st_ones n1) rfl rfl ?_
 intro w4 hE4 hs4 hB7
 try simp (disch := first | omega | assumption | rfl) only [↓reduceIte, go_sem, Nat.reduceLT, Nat.reduceEqDiff, Nat.reduceSub]
 refine hK _ _ ?_; clear hK hgd; clear K; try clear gd
 obtain ⟨b7, hb7⟩ : ∃ b, w3.heap.size = b := ⟨_, rfl⟩
 rw [hb7] at hB7 hs4 ⊢
 have hE14 := hE13.trans hE4
 have p14 := cellO_ext hE4 p13
 repeat refine c_r ?_
 refine rq ?_; intro gd K hgd hK
 try simp (disch := first | omega | assumption | rfl) only [↓reduceIte, go_sem, Nat.reduceLT, Nat.reduceEqDiff, Nat.reduceSub, s4, p14, Nat.zero_add]
 refine Fn.mono (Fold_ok w4 nv s.name (hnm.ext hE14) mq.LB (by omega)) ?_
 rintro fv w5 ⟨hfv, hE5⟩
 try simp (disch := first | omega | assumption | rfl) only [↓reduceIte, go_sem, Nat.reduceLT, Nat.reduceEqDiff, Nat.reduceSub]
 have f1 := hfv.isOne
 refine sv_at (P := Tryz.prog) (t := 23) (j := 1) (u := fv) (l := stV nv s) (Ext.at hE5 hB7) (by show 1 < 6; decide) f1 rfl rfl ?_
 intro w6 hs6 hB6 hk6
 try simp (disch := first | omega | assumption | rfl) only [↓reduceIte, go_sem, Nat.reduceLT, Nat.reduceEqDiff, Nat.reduceSub]
 refine hK _ _ ?_; clear hK hgd; clear K; try clear gd
 obtain ⟨s', hs'⟩ : ∃ s' : StateL, { s with name := foldN s.name } = s' := ⟨_, rfl⟩
 have hB6' : w6.heap[b7]? = some (.cells (stV fv s').toArray 67 (0, 0)) := by rw [← hs']; exact hB6
 have hs35 := hE5.size
 have hE36 : Ext w3 w6 := Keep.to_ext (hE4.trans hE5) rfl (fun b hb => by omega) hk6
 have hE16 := hE13.trans hE36
 have n' : s'.name = foldN s.name := by rw [← hs']
 have hfv6 : Row w6 fv (s'.name.map vs) := by
  rw [n']
  refine hfv.keepV hk6 fun a u hs hu hm => ?_
  obtain ⟨b, of, sp⟩ := a
  dsimp only at hs
  subst hs
  have hB75 := Ext.at hE5 hB7
  have hsp : sp = Option.none := by
   cases sp with
   | none => rfl
   | some q => simp [World.cell?, hB75] at hu
  subst hsp
  have h2 := cell_of hB75 of
  rw [hu] at h2
  have h3 : u ∈ stV nv s := List.mem_of_getElem? (i := of) (by rw [← List.getElem?_toArray]; exact h2.symm)
  obtain ⟨y, _, rfl⟩ := List.mem_map.1 hm
  rw [hnv] at h3
  unfold stV at h3
  simp [vs] at h3
 have hnm3 := hnm.ext hE13
 have st' : StC w6 (stV fv s') s' := ⟨fv, rfl, hfv6⟩
 have hb' : StB s' := by
  have h := gS.b gN
  rw [← hs']
  exact ⟨(goodN_g (good_fold gS.nm)).m, h.rw0, h.rw1, h.rf0, h.rf1⟩
 have dS6 := cellsO_ext hE36 dS3
 have dN6 := cellsO_ext hE36 dN3
 have dX6 : cellsO w6 (some ⟨b7, 0, Option.none⟩) 6 = some (stV fv s') := sv_cells hB6' rfl
 have f61 : cellO w6 (some ⟨b7, 1, Option.none⟩) = some fv := cellO_at hB6' rfl
 repeat refine c_r ?_
 refine rc (an5 s2 s3 s4 dN6 dS6) (Next_ok (t := t) hE16 hN0 gN.z (hs0.ext hE16) (gS.b gN)) ?_
 rintro lv w7 ⟨hE7, hrows⟩
 refine re trivial ?_
 have dN7 := cellsO_ext hE7 dN6
 have dX7 := cellsO_ext hE7 dX6
 repeat refine c_r ?_
 refine rc (an4 s2 s3 dN7 dX7) (Next_ok (t := t) (hE16.trans hE7) hN0 gN.z (st'.ext hE7) hb') ?_
 rintro lv' w8 ⟨hE8, hrows'⟩
 refine re trivial ?_
 have hE68 := hE7.trans hE8
 have hE18 := hE16.trans hE68
 obtain ⟨aL, cL, rfl, hcL, hgL⟩ := hrows.open
 obtain ⟨aM, cM, rfl, hcM, hgM⟩ := hrows'.open
 have hall : AllS (nextS N s t) (nextS N s' t) := by rw [← hs']; exact next_fold
 have hgn : ∀ x ∈ nextS N s t, GoodSt N x := fun x hx => (next_F gN gS hx).2.g
 have hgs' : GoodSt N s' := by rw [← hs']; exact ⟨gS.s0, gS.s1, good_fold gS.nm, gS.w0, gS.w1, gS.f0, gS.f1, gS.e0, gS.e1⟩
 have hgn' : ∀ x ∈ nextS N s' t, GoodSt N x := fun x hx => (next_F gN hgs' hx).2.g
 have hLlen : (nextS N s t).length ≤ 2000000 := next_len gN.z mq
 obtain ⟨L, hL⟩ : ∃ L, nextS N s t = L := ⟨_, rfl⟩
 obtain ⟨M, hM⟩ : ∃ M, nextS N s' t = M := ⟨_, rfl⟩
 rw [hL] at hrows hcL hall hgn hLlen ⊢
 rw [hM] at hrows' hcM hall hgn' ⊢
 simp only [hL] at hgL
 simp only [hM] at hgM
 have hlen := hall.len
 have hlen' : (L.length : Int) = (M.length : Int) := by omega
 have dS8 := cellsO_ext hE68 dS6
 have dX8 := cellsO_ext hE68 dX6
 have f81 := cellO_ext hE68 f61
 have hsm : sameS s s' = true := AlS.same ⟨foldN s.name, hs'.symm, foldN_two _⟩
 have l1 : s'.name.length ≤ 1000000 := hb'.nm.len
 repeat refine c_r ?_
 refine W_mono (Q := fun e σ' ds' v' => e = .normal ∧ ds' = [] ∧ σ' 8 = .slice aL L.length cL ∧ σ' 9 = .slice aM M.length cM ∧ Ext w8 v' ∧ σ' 51 = .bool false) ?_ ?_
 ·refine rcg [(5, 40), (11, 46)] (an5 s4 dS8 dX8 (decide_eq_true hlen') Bool.not_true) (SSame_ok w8 (hs0.ext hE18) (st'.ext hE68) mq.LB hb'.nm.LB (by omega) (by omega)) ?_
  rintro _ w9 ⟨rfl, hE9⟩
  rw [hsm]
  have f91 := cellO_ext hE9 f81
  refine rdg [(5, 40), (11, 46)] (an3 f91 Nat.zero_add Bool.not_true) (NGood_ok w9 fv s'.name (hfv6.ext (hE68.trans hE9))) ?_
  rintro _ wA ⟨rfl, hEA⟩
  rw [hgs'.nm]
  refine reg [(5, 40), (11, 46)] Bool.not_true ?_
  exact ⟨rfl, rfl, vq0, vq0, hE9.trans hEA, vr0⟩
 rintro _ σ3 _ w9 ⟨rfl, rfl, s8, s9, hE9, s51⟩
 repeat refine c_r ?_
 refine wf s51 ?_
 clear s51
 repeat refine c_r ?_
 refine rg0 ?_
 repeat refine c_r ?_
 refine W_loop (fun m σ ds A => ds = [] ∧ ∃ (i : Nat), i + m = L.length ∧ σ 10 = vi i ∧ σ 8 = .slice aL L.length cL ∧ σ 9 = .slice aM M.length cM ∧ Ext w8 A) L.length ?_ ?_
 ·exact ⟨rfl, 0, by omega, vr0, (vq1 s8), (vq1 s9), hE9⟩
 clear s8 s9 s2 s3 s4
 rintro m σ ds A ⟨rfl, i, him, sA, s8, s9, hEA⟩
 repeat refine c_r ?_
 refine rg2 sA s8 ?_
 repeat refine c_r ?_
 refine wc0 ?_ ?_
 ·intro hlt
  simp only [decide_eq_true_eq] at hlt
  have hi : i < L.length := by omega
  have hi2 : i < M.length := by omega
  have hi0 : (0 : Int) ≤ (i : Int) := by omega
  have hi1 : (i : Int) < (M.length : Int) := by omega
  have hi1' : (i : Int) + 1 = ((i + 1 : Nat) : Int) := by push_cast; rfl
  obtain ⟨cx, hcx, hX⟩ := hgL i hi
  obtain ⟨cy, hcy, hY⟩ := hgM i hi2
  have hal := hall.get hi hi2
  have g1 := (goodN_g (hgn _ (List.getElem_mem hi)).nm).m
  have g2 := (goodN_g (hgn' _ (List.getElem_mem hi2)).nm).m
  obtain ⟨y, hye⟩ : ∃ y, L[i] = y := ⟨_, rfl⟩
  obtain ⟨z, hze⟩ : ∃ z, M[i] = z := ⟨_, rfl⟩
  rw [hye] at hX hal g1
  rw [hze] at hY hal g2
  have hX0 := hX
  have hY0 := hY
  obtain ⟨ny, rfl, hny⟩ := hX.ex
  obtain ⟨nz, rfl, hnz⟩ := hY.ex
  obtain ⟨xL, rfl⟩ := Option.isSome_iff_exists.1 (cellsO_some hcx)
  obtain ⟨xM, rfl⟩ := Option.isSome_iff_exists.1 (cellsO_some hcy)
  obtain ⟨xi, hxi⟩ : ∃ xi, adr (some xL) (i * 6) = some xi := ⟨_, rfl⟩
  obtain ⟨yi, hyi⟩ : ∃ xi, adr (some xM) (i * 6) = some xi := ⟨_, rfl⟩
  rw [hxi] at hcx
  rw [hyi] at hcy
  have k1 := g1.len
  have k2 := g2.len
  repeat refine c_r ?_
  refine W_drw (fun _ => false) [(0, true), (1, true), (2, true), (3, true), (4, true), (5, true), (6, true), (7, true), (8, false), (9, true)] NoS mixed (by kernel_rfl) ?_; intro gd K x hgd hx hxe hK; clear hxe
  have h7x := hE8.trans (hEA.trans hx)
  have cxx := cellsO_ext h7x hcx
  have cyx := cellsO_ext (hEA.trans hx) hcy
  simp (disch := first | omega | assumption | rfl) only [↓reduceIte, go_sem, Nat.reduceLT, Nat.reduceEqDiff, Nat.reduceSub, sA, s8, s9, hi0, hlt, hi1, hxi, hyi, cxx, cyx]
  refine Fn.mono (SSame_ok x (hX0.ext h7x) (hY0.ext (hEA.trans hx)) g1.LB g2.LB (by omega) (by omega)) ?_
  rintro _ Z ⟨rfl, hZ⟩
  refine ⟨.inr hZ, ?_⟩
  rw [hal.same]
  simp (disch := first | omega | assumption | rfl) only [↓reduceIte, go_sem, Nat.reduceLT, Nat.reduceEqDiff, Nat.reduceSub, Bool.not_true]
  refine hK _ _ ?_; clear hK hgd; clear K; try clear gd
  repeat refine c_r ?_
  refine wf trivial ?_
  repeat refine c_r ?_
  refine rg2 sA hi1' ?_
  repeat refine c_r ?_
  exact ⟨m - 1, by omega, rfl, i + 1, by omega, vq0, (vq1 s8), (vq1 s9), (hEA.trans hx).trans hZ⟩
 ·intro hge
  repeat (first | refine c_r ?_ | refine rg0 ?_)
  refine rt0 Tryz.ntmps11 ?_
  exact ⟨rfl, hE18.trans hEA⟩
end Go.Proofs.YtopbbjdembnfdaaGreat
