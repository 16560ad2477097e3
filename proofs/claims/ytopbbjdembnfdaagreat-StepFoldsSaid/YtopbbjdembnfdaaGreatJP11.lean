/-
  Texts of a proof, joined: V3, V4, M5ci, V5, M5st, V6, V7, V8, V9, VA, Y6.
  Conditions: none.
-/
import Derived.Test.YtopbbjdembnfdaaGreatJP10
import Derived.Test.YtopbbjdembnfdaaGreatJP01
import Derived.Test.YtopbbjdembnfdaaGreatJP03
set_option linter.unusedVariables false
set_option linter.unusedSimpArgs false
set_option linter.defProp false
set_option linter.unnecessarySimpa false
namespace Go.Proofs.YtopbbjdembnfdaaGreat
open Go
set_option maxRecDepth 10000
theorem zone_at {w : World} {hv : Value} {N : NetL} {s k : Int} {z : ZoneL} (hh : Rows 6 (HostC w) w hv N.hosts) (hz : (N.zones s)[k.toNat]? = some z) (hk : 0 ≤ k) :
  ∃ (i j : Nat) (ah : Addr) (ch : Nat) (xi x5 az : Addr) (cz nz : Nat) (xz : Addr) (ov lv : Value), s = (i : Int) ∧ k = (j : Int) ∧ i < N.hosts.length ∧ j < nz ∧ hv = .slice (some ah) N.hosts.length ch ∧ adr (some ah) (i * 6) = some xi ∧ adr (some xi) 5 = some x5 ∧ cellO w (some x5) = some (.slice (some az) nz cz) ∧ adr (some az) (j * 2) = some xz ∧
   cellsO w (some xz) 2 = some [ov, lv] ∧ Row w ov (z.o.map vs) ∧ Rows 7 (RecAt w) w lv z.recs := by
 unfold NetL.zones at hz
 split at hz
 ·simp at hz
 rename_i hs
 cases hh' : N.hosts[s.toNat]? with
 | none => rw [hh'] at hz; simp at hz
 | some h =>
  rw [hh'] at hz
  dsimp only at hz
  obtain ⟨hi, hhi⟩ := List.getElem?_eq_some_iff.1 hh'
  obtain ⟨hj, hzj⟩ := List.getElem?_eq_some_iff.1 hz
  obtain ⟨ah, ch, rfl, _, hgh⟩ := hh.open
  obtain ⟨cs, hcs, hH⟩ := hgh _ hi
  rw [hhi] at hH
  obtain ⟨nv, b1, b2, b3, b4, zv, rfl, _, _, hzr⟩ := hH.ex
  obtain ⟨az, cz, rfl, _, hgz⟩ := hzr.open
  obtain ⟨c2, hc2, hZ⟩ := hgz _ hj
  rw [hzj] at hZ
  obtain ⟨ov, lv, rfl, ho, hr⟩ := hZ.ex
  obtain ⟨xh, rfl⟩ := Option.isSome_iff_exists.1 (cellsO_some hcs)
  obtain ⟨xz, rfl⟩ := Option.isSome_iff_exists.1 (cellsO_some hc2)
  obtain ⟨xi, hxi⟩ : ∃ xi, adr (some xh) (s.toNat * 6) = some xi := ⟨_, rfl⟩
  obtain ⟨x5, hx5⟩ : ∃ x, adr (some xi) 5 = some x := ⟨_, rfl⟩
  obtain ⟨xk, hxk⟩ : ∃ xi, adr (some xz) (k.toNat * 2) = some xi := ⟨_, rfl⟩
  rw [hxi] at hcs
  rw [hxk] at hc2
  exact ⟨s.toNat, k.toNat, xh, ch, xi, x5, xz, cz, _, xk, ov, lv, by omega, by omega, hi, hj, rfl, hxi, hx5, by rw [← hx5]; exact cell_of_cells hcs rfl, hxk, hc2, ho, hr⟩
theorem ones5 {a b c : Value} {k : Int} {d : Bool} (ha : one a = true) (hb : one b = true) (hc : one c = true) : ∀ v ∈ [vi k, a, b, .bool d, c], one v = true := fun v h => by
 simp at h
 rcases h with rfl | rfl | rfl | rfl | rfl <;> first | assumption | rfl
theorem nil_res {w0 w : World} {B : Nat} {k : Int} {b : Bool} : ResB w0 B w [vi k, .slice Option.none 0 0, .slice Option.none 0 0, .bool b, .slice Option.none 0 0] ⟨k, [], [], b, []⟩ :=
 ⟨_, _, _, rfl, Rows.nil _ _ _, BlkB.nil, .inr (nil_row _), Rows.nil _ _ _, BlkB.nil⟩
set_option maxHeartbeats 1000000 in
theorem Ask_ok {w0 w : World} (hE0 : Ext w0 w) {cs : List Value} {N : NetL} {s : Int} {q : Nm} {qv : Value} {t : Int} (hN : NetAt w0 cs N) (hG : NetZ N) (hq : Row w qv (q.map vs)) (mq : NmM q) :
  Fn Tryz.prog 98 #[.agg cs.toArray, vi s, qv, vi t] w (fun v w' => Ext w w' ∧ ∃ cs, v = .agg cs.toArray ∧ ResB w0 w.heap.size w' cs (askN N s q t)) := by
 have hN0 := hN
 obtain ⟨hv, rv, rfl, hh, hr⟩ := hN.ex
 obtain ⟨ah, ch, hhv, _⟩ := hh.open
 obtain ⟨ar, cr, hrv, _⟩ := id hr
 refine enter Tryz.func98 Tryz.ntmps98 rfl rfl ?_
 repeat refine c_r ?_
 rw [hhv, hrv]
 refine rg0 ?_
 rw [← hhv, ← hrv]
 repeat refine c_r ?_
 rw [new_size]
 refine W_alloc2 ?_
 intro w1 hE1 hs1 hA hC
 have d := sv_cells (n := 4) (l := [hv, rv, vi N.rw, vi N.rf]) hA rfl
 repeat refine c_r ?_
 refine rc d (Best_ok (s := s) (hE0.trans hE1) hN0 hG (hq.ext hE1) mq) ?_
 rintro _ w2 ⟨rfl, hE2⟩
 refine re trivial ?_
 have hE02 := hE0.trans (hE1.trans hE2)
 have hC2 := Ext.at hE2 hC
 have d2 := cellsO_ext hE2 d
 repeat refine c_r ?_
 refine rg0 ?_
 repeat refine c_r ?_
 cases hb : (bestN N s q).2 with
 | false =>
  have hk : askN N s q t = ⟨7, [], [], false, []⟩ := by unfold askN; rw [hb]; rfl
  refine wt trivial ?_
  repeat refine c_r ?_
  refine rq ?_; intro gd K hgd hK
  try simp (disch := first | omega | assumption | rfl) only [↓reduceIte, go_sem, Nat.reduceLT, Nat.reduceEqDiff, Nat.reduceSub]
  refine ⟨by kernel_rfl, ?_⟩
  rw [show bdV Tryz.prog 31 [(0, vi 7)] = some (.agg #[vi 7, .slice Option.none 0 0, .slice Option.none 0 0, .bool false, .slice Option.none 0 0]) from by kernel_rfl]
  try simp (disch := first | omega | assumption | rfl) only [↓reduceIte, go_sem, Nat.reduceLT, Nat.reduceEqDiff, Nat.reduceSub]
  refine sv_all (P := Tryz.prog) (t := 31) (l := [vi 7, .slice Option.none 0 0, .slice Option.none 0 0, .bool false, .slice Option.none 0 0]) hC2 rfl (ones5 rfl rfl rfl) rfl rfl ?_
  intro z hz' hbz hkz
  try simp (disch := first | omega | assumption | rfl) only [↓reduceIte, go_sem, Nat.reduceLT, Nat.reduceEqDiff, Nat.reduceSub]
  refine hK _ _ ?_; clear hK hgd; clear K; try clear gd
  repeat refine c_r ?_
  refine ret_any (.inr rfl) Tryz.ntmps98 rfl (res_agg (x := ⟨w.heap.size + 1, 0, Option.none⟩) (k := 5) (vq0) rfl rfl (sv_cells hbz rfl) res_nil) ?_
  exact ⟨Keep.to_ext (hE1.trans hE2) rfl (fun b hb => by omega) hkz, _, rfl, by rw [hk]; exact nil_res⟩
 | true =>
  obtain ⟨hk0, hk1⟩ := bestN_in hb
  obtain ⟨z, hz⟩ : ∃ z, (N.zones s)[(bestN N s q).1.toNat]? = some z := ⟨_, List.getElem?_eq_getElem (by omega)⟩
  have hk : askN N s q t = lookL z.o z.recs q t := by unfold askN; rw [hb, hz]; rfl
  have gz := (zones_good hG).1 z (List.mem_of_getElem? hz)
  obtain ⟨i, j, xh, c1, xi, x5, az, cz, nz, xz, ov, lv, rfl, hkj, hi, hj, rfl, hxi, hx5, pz, hxz, dz, ho, hl⟩ := zone_at hh hz hk0
  rw [hkj]
  refine wf trivial ?_
  have p0 : cellO w2 (some ⟨w.heap.size, 0, Option.none⟩) = some (.slice (some xh) N.hosts.length c1) := cellO_at (Ext.at hE2 hA) rfl
  have pz2 := cellO_ext hE02 pz
  have dz2 := cellsO_ext hE02 dz
  have i0 : (0 : Int) ≤ (i : Int) := by omega
  have i1 : (i : Int) < (N.hosts.length : Int) := by omega
  have j0 : (0 : Int) ≤ (j : Int) := by omega
  have j1 : (j : Int) < (nz : Int) := by omega
  repeat refine c_r ?_
  refine rq ?_; intro gd K hgd hK
  try simp (disch := first | omega | assumption | rfl) only [↓reduceIte, go_sem, Nat.reduceLT, Nat.reduceEqDiff, Nat.reduceSub, p0, i0, i1, j0, j1, hxi, hx5, pz2, hxz, dz2, Nat.add_zero]
  refine Fn.mono (Zone_ok (t := t) (gz.zn hE02 (ho.ext hE02) (hl.ext hE02)) gz.c.gd (hq.ext (hE1.trans hE2)) mq) ?_
  rintro _ w3 ⟨hE3, cs, rfl, hres⟩
  try simp (disch := first | omega | assumption | rfl) only [↓reduceIte, go_sem, Nat.reduceLT, Nat.reduceEqDiff, Nat.reduceSub]
  refine sv_all (P := Tryz.prog) (t := 31) (l := cs) (Ext.at hE3 hC2) hres.cells.1 hres.cells.2 (by rw [hres.cells.1]; rfl) rfl ?_
  intro z hz' hbz hkz
  try simp (disch := first | omega | assumption | rfl) only [↓reduceIte, go_sem, Nat.reduceLT, Nat.reduceEqDiff, Nat.reduceSub]
  refine hK _ _ ?_; clear hK hgd; clear K; try clear gd
  repeat refine c_r ?_
  refine ret_any (.inr rfl) Tryz.ntmps98 rfl (res_agg (x := ⟨w.heap.size + 1, 0, Option.none⟩) (k := 5) (vq0) rfl rfl (sv_cells hbz hres.cells.1.symm) res_nil) ?_
  have hs2 := hE2.size
  exact ⟨Keep.to_ext (hE1.trans (hE2.trans hE3)) rfl (fun b hb => by omega) hkz, _, rfl, by rw [hk]; exact (hres.keep hkz (fun b h1 _ h2 => by omega)).mono (by omega)⟩
structure TellD (w0 w : World) (g : FuncId) (cap : List Value) (p : DatL → Bool) (R : List DatL) : Prop where
 call : callable Tryz.prog g = true
 tell : ∀ (A : World) (cs : List Value) (r : DatL), Ext w A → r ∈ R → DatAt w0 cs r → Fn Tryz.prog g (.agg cs.toArray :: cap).toArray A (fun v A' => v = .bool (p r) ∧ Ext A A')
theorem IndexD_ok {w0 w : World} {lv : Value} {R : List DatL} {g : FuncId} {cap : List Value} {p : DatL → Bool} (hl : Rows 5 (DatAt w0) w lv R) (ht : TellD w0 w g cap p R) (hlen : R.length ≤ 1000000000) :
  Fn Tryz.prog 242 #[lv, .func (.func g) #[] cap.toArray] w (fun v w' => Ext w w' ∧ ∃ i : Int, v = vi i ∧ decide (i ≥ 0) = R.any p) := by
 obtain ⟨hcal, htell⟩ := ht
 obtain ⟨aR, cR, rfl, hcR, hgR⟩ := hl.open
 refine enter Tryz.func242 Tryz.ntmps242 rfl rfl ?_
 repeat refine c_r ?_
 refine rg0 ?_
 repeat refine c_r ?_
 refine rg0 ?_
 repeat refine c_r ?_
 refine W_loop (fun m σ ds A => ds = [] ∧ ∃ (i : Nat), i + m = R.length ∧ σ 8 = vi i ∧ σ 7 = vi R.length ∧ σ 0 = .slice aR R.length cR ∧ σ 1 = .func (.func g) #[] cap.toArray ∧ Ext w A ∧ ∀ j (h : j < R.length), j < i → p R[j] = false) R.length ?_ ?_
 ·exact ⟨rfl, 0, by omega, vr0, vq0, vq0, vq0, Keep.refl _ _, fun j h hj => absurd hj (by omega)⟩
 rintro m σ ds A ⟨rfl, i, him, h8, h7, h0, h1, hEA, hlow⟩
 repeat refine c_r ?_
 refine rg2 h8 h7 ?_
 repeat refine c_r ?_
 refine wc0 ?_ ?_
 ·intro hlt
  simp only [decide_eq_true_eq] at hlt
  have hiR : i < R.length := by omega
  have hi0 : (0 : Int) ≤ (i : Int) := by omega
  have hi1 : (i : Int) < (R.length : Int) := by omega
  have hi1' : (i : Int) + 1 = ((i + 1 : Nat) : Int) := by push_cast; rfl
  obtain ⟨cr, hcr, hRr⟩ := hgR i hiR
  obtain ⟨xR, rfl⟩ := Option.isSome_iff_exists.1 (cellsO_some hcr)
  have hcrA := cellsO_ext hEA hcr
  repeat refine c_r ?_
  refine rg1 h8 ?_
  repeat refine c_r ?_
  refine rq ?_; intro gd K hgd hK
  try simp (disch := first | omega | assumption | rfl) only [↓reduceIte, go_sem, Nat.reduceLT, Nat.reduceEqDiff, Nat.reduceSub, h0, h1, hi0, hi1, hcrA]
  refine call_of hcal (Fn.mono (htell A cr R[i] hEA (List.getElem_mem hiR) hRr) ?_)
  rintro _ A1 ⟨rfl, hE1⟩
  try simp (disch := first | omega | assumption | rfl) only [↓reduceIte, go_sem, Nat.reduceLT, Nat.reduceEqDiff, Nat.reduceSub]
  refine hK _ _ ?_; clear hK hgd; clear K; try clear gd
  repeat refine c_r ?_
  refine wc0 ?_ ?_
  ·intro ht
   repeat (first | refine c_r ?_ | refine rg0 ?_)
   refine rt0 Tryz.ntmps242 ?_
   refine ⟨hEA.trans hE1, _, rfl, ?_⟩
   rw [show R.any p = true from List.any_eq_true.2 ⟨_, List.getElem_mem hiR, ht⟩]
   exact decide_eq_true (by omega)
  ·intro ht
   repeat refine c_r ?_
   refine rg2 h8 hi1' ?_
   repeat refine c_r ?_
   refine ⟨m - 1, by omega, rfl, i + 1, by omega, vq0, (vq1 h7), (vq1 h0), (vq1 h1), hEA.trans hE1, fun j hj hji => ?_⟩
   by_cases hj2 : j = i
   ·subst hj2; exact ht
   ·exact hlow j hj (by omega)
 ·intro hge
  simp only [decide_eq_false_iff_not] at hge
  repeat (first | refine c_r ?_ | refine rg0 ?_)
  refine rt0 Tryz.ntmps242 ?_
  refine ⟨hEA, _, rfl, ?_⟩
  have : R.any p = false := by
   rw [List.any_eq_false]
   intro x hx
   obtain ⟨j, hj, rfl⟩ := List.getElem_of_mem hx
   rw [hlow j hj (by omega)]; exact Bool.false_ne_true
  rw [this]; rfl
theorem ContainsD_ok {w0 w : World} {lv : Value} {R : List DatL} {g : FuncId} {cap : List Value} {p : DatL → Bool} (hl : Rows 5 (DatAt w0) w lv R) (ht : TellD w0 w g cap p R) (hlen : R.length ≤ 1000000000) :
  Fn Tryz.prog 225 #[lv, .func (.func g) #[] cap.toArray] w (fun v w' => v = .bool (R.any p) ∧ Ext w w') := by
 refine enter Tryz.func225 Tryz.ntmps225 rfl rfl ?_
 repeat refine c_r ?_
 refine rg0 ?_
 repeat refine c_r ?_
 refine rq ?_; intro gd K hgd hK
 try simp (disch := first | omega | assumption | rfl) only [↓reduceIte, go_sem, Nat.reduceLT, Nat.reduceEqDiff, Nat.reduceSub]
 refine Fn.mono (IndexD_ok hl ht hlen) ?_
 rintro _ w1 ⟨hE1, i, rfl, hi⟩
 try simp (disch := first | omega | assumption | rfl) only [↓reduceIte, go_sem, Nat.reduceLT, Nat.reduceEqDiff, Nat.reduceSub]
 refine hK _ _ ?_; clear hK hgd; clear K; try clear gd
 repeat refine c_r ?_
 refine rt0 Tryz.ntmps225 ?_
 exact ⟨by rw [hi], hE1⟩
theorem BEqual_ok (w : World) (a b : Value) (xs ys : List UInt8) (ha : Row w a (xs.map byteV)) (hb : Row w b (ys.map byteV)) : Fn Tryz.prog 228 #[a, b] w (fun v w' => v = .bool (decide (xs = ys)) ∧ w' = w) := by
 obtain ⟨a1, c1, rfl, _, h1⟩ := ha
 obtain ⟨a2, c2, rfl, _, h2⟩ := hb
 simp only [List.length_map] at h1 h2 ⊢
 refine enter Tryz.func228 Tryz.ntmps228 rfl rfl ?_
 repeat refine c_r ?_
 refine rg0 ?_
 repeat refine c_r ?_
 refine rq ?_; intro gd K hgd hK
 try simp (disch := first | omega | assumption | rfl) only [↓reduceIte, go_sem, Nat.reduceLT, Nat.reduceEqDiff, Nat.reduceSub]
 refine conv_b2s (l := xs) rfl rfl rfl (vq0) (fun j hj => by have := h1 j (by simpa using hj); simpa using this) ?_
 try simp (disch := first | omega | assumption | rfl) only [↓reduceIte, go_sem, Nat.reduceLT, Nat.reduceEqDiff, Nat.reduceSub]
 refine conv_b2s (l := ys) rfl rfl rfl (vq0) (fun j hj => by have := h2 j (by simpa using hj); simpa using this) ?_
 try simp (disch := first | omega | assumption | rfl) only [↓reduceIte, go_sem, Nat.reduceLT, Nat.reduceEqDiff, Nat.reduceSub]
 refine hK _ _ ?_; clear hK hgd; clear K; try clear gd
 repeat refine c_r ?_
 refine rt0 Tryz.ntmps228 ?_
 exact ⟨rfl, rfl⟩
def isA (d : DatL) : Bool := decide (d.ty = 1)
def isG (addr : List UInt8) (d : DatL) : Bool := isA d && decide (d.raw = addr)
theorem IsA_ok {w0 A : World} {cs : List Value} {r : DatL} (hcs : DatAt w0 cs r) : Fn Tryz.prog 224 #[.agg cs.toArray] A (fun v A' => v = .bool (isA r) ∧ Ext A A') := by
 obtain ⟨nm, nu, tx, rw', rfl, h1, h2, h3, h4⟩ := hcs.ex
 refine enter Tryz.func224 Tryz.ntmps224 rfl rfl ?_
 repeat refine c_r ?_
 refine rg0 ?_
 repeat refine c_r ?_
 refine W_alloc1 ?_
 intro w1 hE1 hs1 hA
 have p0 : cellO w1 (some ⟨A.heap.size, 0, Option.none⟩) = some (vi r.ty) := cellO_at hA rfl
 refine rg2 p0 Nat.add_zero ?_
 repeat refine c_r ?_
 refine rt0 Tryz.ntmps224 ?_
 exact ⟨rfl, hE1⟩
theorem tell_A {w0 w : World} {ds : List DatL} : TellD w0 w 224 [] isA ds := ⟨rfl, fun A cs r _ _ hcs => IsA_ok hcs⟩
theorem tell_G {w0 w : World} {bf bh : Nat} {nv zv : Value} {a b c d : UInt8} {ds : List DatL} (hE0 : Ext w0 w) (hf : w.heap[bf]? = some (.cells #[.func (.func 224) #[] #[]] 266 (0, 0))) (hh : w.heap[bh]? = some (.cells #[nv, byteV a, byteV b, byteV c, byteV d, zv] 160 (0, 0))) :
  TellD w0 w 227 [.pointer (some ⟨bf, 0, Option.none⟩), .pointer (some ⟨bh, 0, Option.none⟩)] (isG [a, b, c, d]) ds := by
 refine ⟨rfl, fun A cs r hE hr hcs => ?_⟩
 have hcs0 := hcs
 obtain ⟨nm, nu, tx, rw', rfl, h1, h2, h3, h4⟩ := hcs.ex
 obtain ⟨vals, ⟨a1, c1, rfl, _⟩, _⟩ := id h1
 obtain ⟨a2, c2, rfl, _⟩ := id h2
 obtain ⟨a3, c3, rfl, _⟩ := id h3
 obtain ⟨a4, c4, hrw, _⟩ := id h4
 refine enter Tryz.func227 Tryz.ntmps227 rfl rfl ?_
 repeat refine c_r ?_
 rw [hrw]
 refine rg0 ?_
 rw [← hrw]
 repeat refine c_r ?_
 refine W_alloc1 ?_
 intro w1 hE1 hs1 hA
 have hE01 := hE0.trans (hE.trans hE1)
 have pf : cellO w1 (some ⟨bf, 0, Option.none⟩) = some (.func (.func 224) #[] #[]) := cellO_at (Ext.at (hE.trans hE1) hf) rfl
 have hhA := Ext.at (hE.trans hE1) hh
 have d5 := sv_cells (n := 5) (l := [vi r.ty, _, _, _, rw']) hA rfl
 have p4 : cellO w1 (some ⟨A.heap.size, 4, Option.none⟩) = some rw' := cellO_at hA rfl
 have hadr : Row w1 (.slice (some ⟨bh, 1, Option.none⟩) 4 4) ([a, b, c, d].map byteV) := ⟨some ⟨bh, 1, Option.none⟩, 4, rfl, Nat.le_refl _, fun j hj => by
  have hj4 : j < 4 := by simpa using hj
  have : adr (some ⟨bh, 1, Option.none⟩) j = some ⟨bh, 1 + j, Option.none⟩ := by simp [adr, Addr.add]
  rw [this]
  refine cellO_at hhA ?_
  match j, hj4 with
  | 0, _ => rfl
  | 1, _ => rfl
  | 2, _ => rfl
  | 3, _ => rfl⟩
 repeat refine c_r ?_
 refine W_drw (fun _ => false) [(0, true), (1, true), (2, false), (3, true), (4, true), (5, true), (6, true), (7, false), (8, false), (9, true), (10, true)] NoS mixed (by kernel_rfl) ?_; intro gd K x hgd hx hxe hK; clear hxe
 have hg3 : ∀ n σ b, wantV gd n σ (some (3, b)) = boolIs (ev n σ (.tmp 8)) b := (fun n σ b => by rw [wantV_some, show gd 3 = some 8 from (by rw [hgd]; rfl)]; rfl)
 have pfx := cellO_ext hx pf
 have d5x := cellsO_ext hx d5
 have p4x := cellO_ext hx p4
 simp (disch := first | omega | assumption | rfl) only [↓reduceIte, go_sem, Nat.reduceLT, Nat.reduceEqDiff, Nat.reduceSub, pfx, d5x]
 refine Fn.mono (IsA_ok hcs0) ?_
 rintro _ y1 ⟨rfl, hy1⟩
 refine ⟨.inr hy1, ?_⟩
 have p4y := cellO_ext hy1 p4x
 cases hai : isA r with
 | false =>
  simp (disch := first | omega | assumption | rfl) only [↓reduceIte, go_sem, Nat.reduceLT, Nat.reduceEqDiff, Nat.reduceSub, ↓hg3]
  refine hK _ _ ?_; clear hK hgd; clear K; try clear gd
  repeat refine c_r ?_
  refine rt0 Tryz.ntmps227 ?_
  exact ⟨by unfold isG; rw [hai]; rfl, (hE1.trans hx).trans hy1⟩
 | true =>
  simp (disch := first | omega | assumption | rfl) only [↓reduceIte, go_sem, Nat.reduceLT, Nat.reduceEqDiff, Nat.reduceSub, p4y, ↓hg3]
  refine op_slA rfl (by decide) (by kernel_rfl) (vq0) ?_
  refine ⟨.inr (Keep.refl _ _), ?_⟩
  simp (disch := first | omega | assumption | rfl) only [↓reduceIte, go_sem, Nat.reduceLT, Nat.reduceEqDiff, Nat.reduceSub, ↓hg3]
  refine Fn.mono (BEqual_ok _ _ _ _ _ (h4.ext ((hE01.trans hx).trans hy1)) (hadr.ext (hx.trans hy1))) ?_
  rintro _ _ ⟨rfl, rfl⟩
  refine ⟨.inr (Keep.refl _ _), ?_⟩
  simp (disch := first | omega | assumption | rfl) only [↓reduceIte, go_sem, Nat.reduceLT, Nat.reduceEqDiff, Nat.reduceSub, ↓hg3]
  refine hK _ _ ?_; clear hK hgd; clear K; try clear gd
  repeat refine c_r ?_
  refine rt0 Tryz.ntmps227 ?_
  exact ⟨by unfold isG; rw [hai]; rfl, (hE1.trans hx).trans hy1⟩
end Go.Proofs.YtopbbjdembnfdaaGreat
namespace Go.Proofs.YtopbbjdembnfdaaGreat.P_ci
open Go Go.Proofs.YtopbbjdembnfdaaGreat
set_option maxRecDepth 10000
theorem Clip_ok {w : World} {a : Option Addr} {n c : Nat} (hc : n ≤ c) : Fn Tryz.prog 229 #[.slice a n c] w (fun u w' => u = .slice a n n ∧ w' = w) := by
 refine enter Tryz.func229 Tryz.ntmps229 rfl rfl ?_
 repeat refine c_r ?_
 refine rg0 ?_
 repeat refine c_r ?_
 refine rq ?_; intro gd K hgd hK
 try simp (disch := first | omega | assumption | rfl) only [↓reduceIte, go_sem, Nat.reduceLT, Nat.reduceEqDiff, Nat.reduceSub]
 have hcl : slD Tryz.prog (some (TypeDesc.slice 3)) (Value.slice a n c) Option.none (some (Value.int IntKind.i64 ↑n)) (some (Value.int IntKind.i64 ↑n)) = some (.slice a n n) := s_clip hc (by rfl)
 rw [hcl]
 try simp (disch := first | omega | assumption | rfl) only [↓reduceIte, go_sem, Nat.reduceLT, Nat.reduceEqDiff, Nat.reduceSub]
 refine hK _ _ ?_; clear hK hgd; clear K; try clear gd
 repeat refine c_r ?_
 refine rt0 Tryz.ntmps229 ?_
 exact ⟨rfl, rfl⟩
end Go.Proofs.YtopbbjdembnfdaaGreat.P_ci
namespace Go.Proofs.YtopbbjdembnfdaaGreat
open Go
set_option maxRecDepth 10000
structure TellH (w0 w : World) (g : FuncId) (cap : List Value) (p : HostL → Bool) (R : List HostL) : Prop where
 call : callable Tryz.prog g = true
 tell : ∀ (A : World) (cs : List Value) (r : HostL), Ext w A → r ∈ R → HostC w0 cs r → Fn Tryz.prog g (.agg cs.toArray :: cap).toArray A (fun v A' => v = .bool (p r) ∧ Ext A A')
theorem HostC.one {w : World} {cs : List Value} {h : HostL} (hc : HostC w cs h) : cs.length = 6 ∧ ∀ v ∈ cs, one v = true := by
 obtain ⟨nv, a, b, c, d, zv, rfl, _, h1, h2⟩ := hc.ex
 refine ⟨rfl, fun v hv => ?_⟩
 simp at hv
 rcases hv with rfl | rfl | rfl | rfl | rfl | rfl <;> first | exact h1.isOne | exact h2.isOne | rfl
theorem tell_N {w0 w : World} {bn : Nat} {hv : Value} {host : Nm} {R : List HostL} (hE0 : Ext w0 w) (hb : w.heap[bn]? = some (.cells #[hv] 23 (0, 0))) (hh : Row w0 hv (host.map vs)) (mh : NmM host) (hR : ∀ h ∈ R, NmM h.name) :
  TellH w0 w 223 [.pointer (some ⟨bn, 0, Option.none⟩)] (fun h => decide (foldN h.name = foldN host)) R := by
 refine ⟨rfl, fun A cs r hE hr hcs => ?_⟩
 obtain ⟨nv, a, b, c, d, zv, rfl, _, h1, h2⟩ := hcs.ex
 have mr := hR r hr
 have l1 := mr.len
 have l2 := mh.len
 have e1 := h1.isOne
 have e2 := h2.isOne
 obtain ⟨a1, c1, hnv, _⟩ := id h1
 obtain ⟨a2, c2, hzv, _⟩ := h2.open
 refine enter Tryz.func223 Tryz.ntmps223 rfl rfl ?_
 repeat refine c_r ?_
 rw [hnv, hzv]
 refine rg0 ?_
 rw [← hnv, ← hzv]
 repeat refine c_r ?_
 refine W_alloc1 ?_
 intro w1 hE1 hs1 hA
 have p0 : cellO w1 (some ⟨A.heap.size, 0, Option.none⟩) = some nv := cellO_at hA rfl
 have p1 : cellO w1 (some ⟨bn, 0, Option.none⟩) = some hv := cellO_at (Ext.at (hE.trans hE1) hb) rfl
 have hE01 := hE0.trans (hE.trans hE1)
 repeat refine c_r ?_
 refine rc (an3 p0 p1 Nat.add_zero) (Same_ok w1 nv hv r.name host (h1.ext hE01) (hh.ext hE01) mr.LB mh.LB (by omega) (by omega)) ?_
 rintro _ w2 ⟨rfl, hE2⟩
 refine re trivial ?_
 repeat refine c_r ?_
 refine rt0 Tryz.ntmps223 ?_
 exact ⟨rfl, hE1.trans hE2⟩
theorem tell_M {w0 w : World} {bg bf : Nat} {gv : Value} {glue : List DatL} {R : List HostL} (hE0 : Ext w0 w) (hb : w.heap[bg]? = some (.cells #[gv] 28 (0, 0))) (hf : w.heap[bf]? = some (.cells #[.func (.func 224) #[] #[]] 266 (0, 0))) (hg : Rows 5 (DatAt w0) w gv glue) (hgl : glue.length ≤ 1000000000) :
  TellH w0 w 226 [.pointer (some ⟨bg, 0, Option.none⟩), .pointer (some ⟨bf, 0, Option.none⟩)] (fun h => glue.any (isG h.addr)) R := by
 refine ⟨rfl, fun A cs r hE hr hcs => ?_⟩
 obtain ⟨nv, a, b, c, d, zv, rfl, ha, h1, h2⟩ := hcs.ex
 obtain ⟨a1, c1, hnv, _⟩ := id h1
 obtain ⟨a2, c2, hzv, _⟩ := h2.open
 refine enter Tryz.func226 Tryz.ntmps226 rfl rfl ?_
 repeat refine c_r ?_
 rw [hnv, hzv]
 refine rg0 ?_
 rw [← hnv, ← hzv]
 repeat refine c_r ?_
 refine W_alloc1 ?_
 intro w1 hE1 hs1 hA
 have p1 : cellO w1 (some ⟨bg, 0, Option.none⟩) = some gv := cellO_at (Ext.at (hE.trans hE1) hb) rfl
 have hE01 := hE0.trans (hE.trans hE1)
 repeat refine c_r ?_
 refine rc p1 (ContainsD_ok (hg.ext (hE.trans hE1)) (tell_G hE01 (Ext.at (hE.trans hE1) hf) hA) hgl) ?_
 rintro _ w2 ⟨rfl, hE2⟩
 refine re trivial ?_
 repeat refine c_r ?_
 refine rt0 Tryz.ntmps226 ?_
 exact ⟨by rw [ha], hE1.trans hE2⟩
def isHost (host : Nm) (glue : List DatL) (h : HostL) : Bool := if glue.any isA = true then glue.any (isG h.addr) else decide (foldN h.name = foldN host)
def pickI {α : Type} (p : α → Bool) : Nat → List α → List Int
 | _, [] => []
 | i, h :: l => (if p h = true then [(i : Int)] else []) ++ pickI p (i + 1) l
def meantL (N : NetL) (host : Nm) (glue : List DatL) : List Int := pickI (isHost host glue) 0 N.hosts
theorem pickI_app {α : Type} {p : α → Bool} : ∀ {l m : List α} {i : Nat}, pickI p i (l ++ m) = pickI p i l ++ pickI p (i + l.length) m
 | [], m, i => by simp [pickI]
 | h :: l, m, i => by
  simp only [List.cons_append, pickI, List.append_assoc]
  rw [pickI_app (l := l), List.length_cons, show i + 1 + l.length = i + (l.length + 1) from by omega]
theorem pickI_take {α : Type} {p : α → Bool} {l : List α} {i : Nat} (hi : i < l.length) : pickI p 0 (l.take (i + 1)) = pickI p 0 (l.take i) ++ if p l[i] = true then [(i : Int)] else [] := by
 rw [take_succ' hi, pickI_app]
 simp only [pickI, List.append_nil, List.length_take]
 rw [show 0 + min i l.length = i from by omega]
theorem pickI_len {α : Type} {p : α → Bool} : ∀ {l : List α} {i : Nat}, (pickI p i l).length ≤ l.length
 | [], i => by simp [pickI]
 | h :: l, i => by
  have := pickI_len (p := p) (l := l) (i := i + 1)
  simp only [pickI, List.length_append, List.length_cons]
  split <;> simp <;> omega
set_option maxHeartbeats 1000000 in
theorem Meant_ok {w0 w : World} (hE0 : Ext w0 w) {cs : List Value} {N : NetL} {host : Nm} {hv gv : Value} {glue : List DatL} (hN : NetAt w0 cs N) (hG : NetZ N) (hh : Row w0 hv (host.map vs)) (mh : NmM host) (hg : Rows 5 (DatAt w0) w gv glue) (hgl : glue.length ≤ 1000000000) :
  Fn Tryz.prog 195 #[.agg cs.toArray, hv, gv] w (fun v w' => Ext w w' ∧ Row w' v ((meantL N host glue).map vi) ∧ BlkB w.heap.size w' v) := by
 obtain ⟨hs, rs, rfl, hhs, hr⟩ := hN.ex
 obtain ⟨ah, ch, rfl, hch, hgh⟩ := hhs.open
 obtain ⟨ar, cr, hrv, _⟩ := id hr
 obtain ⟨a1, c1, hnv, _⟩ := id hh
 obtain ⟨a2, c2, hgv, _⟩ := hg.open
 have hl := hG.hl
 refine enter Tryz.func195 Tryz.ntmps195 rfl rfl ?_
 repeat refine c_r ?_
 rw [hrv, hnv, hgv]
 refine rg0 ?_
 rw [← hrv, ← hnv, ← hgv]
 repeat refine c_r ?_
 rw [new_size, new_size, new_size]
 refine W_alloc3 ?_
 intro w1 hE1 hs1 hA hB hC
 repeat refine c_r ?_
 refine rg0 ?_
 repeat refine c_r ?_
 refine rq ?_; intro gd K hgd hK
 try simp (disch := first | omega | assumption | rfl) only [↓reduceIte, go_sem, Nat.reduceLT, Nat.reduceEqDiff, Nat.reduceSub]
 refine st_al1 ?_
 intro w2 hE2 hs2 hD
 refine sv_at (P := Tryz.prog) (t := 266) (j := 0) (u := .func (.func 224) #[] #[]) (l := [_]) hD (by simp) rfl rfl rfl ?_
 intro w3 hs3 hD3 hk3
 try simp (disch := first | omega | assumption | rfl) only [↓reduceIte, go_sem, Nat.reduceLT, Nat.reduceEqDiff, Nat.reduceSub]
 refine hK _ _ ?_; clear hK hgd; clear K; try clear gd
 simp only [List.set_cons_zero] at hD3
 obtain ⟨b8, hb8⟩ : ∃ b, w1.heap.size = b := ⟨_, rfl⟩
 rw [hb8] at hD3 hk3 hs2 ⊢
 have hE3 : Ext w w3 := Keep.to_ext (hE1.trans hE2) rfl (fun b hb => by omega) hk3
 have up : ∀ {b : Nat} {O : Obj}, w1.heap[b]? = some O → w3.heap[b]? = some O := fun {b O} h => (hk3.block _ (by have := (Array.getElem?_eq_some_iff.1 h).1; omega) (by have := (Array.getElem?_eq_some_iff.1 h).1; omega)).trans (Ext.at hE2 h)
 have p0 : cellO w3 (some ⟨w.heap.size, 0, Option.none⟩) = some (.slice ah N.hosts.length ch) := cellO_at (up hA) rfl
 have pC : cellO w3 (some ⟨w.heap.size + 1 + 1, 0, Option.none⟩) = some gv := cellO_at (up hC) rfl
 have pD : cellO w3 (some ⟨b8, 0, Option.none⟩) = some (.func (.func 224) #[] #[]) := cellO_at hD3 rfl
 repeat refine c_r ?_
 refine rc (an2 pC pD) (ContainsD_ok (hg.ext hE3) tell_A hgl) ?_
 rintro _ w4 ⟨rfl, hE4⟩
 refine re trivial ?_
 have hE34 := hE3.trans hE4
 have hE04 := hE0.trans hE34
 repeat refine c_r ?_
 refine W_mono (Q := fun e σ' ds' v' => e = .normal ∧ ds' = [] ∧ v' = w4 ∧ σ' 3 = .pointer (some ⟨w.heap.size, 0, Option.none⟩) ∧ ∃ g cap, σ' 7 = .func (.func g) #[] cap.toArray ∧ TellH w0 w4 g cap (isHost host glue) N.hosts) ?_ ?_
 ·cases hany : glue.any isA with
  | true =>
   refine wt trivial ?_
   repeat refine c_r ?_
   refine rg0 ?_
   have hp : isHost host glue = fun h => glue.any (isG h.addr) := funext fun h => by unfold isHost; rw [hany]; rfl
   exact ⟨rfl, rfl, rfl, vq0, 226, [.pointer (some ⟨w.heap.size + 1 + 1, 0, Option.none⟩), .pointer (some ⟨b8, 0, Option.none⟩)], vr0, by rw [hp]; exact tell_M hE04 (Ext.at hE4 (up hC)) (Ext.at hE4 hD3) (hg.ext hE34) hgl⟩
  | false =>
   refine wf trivial ?_
   repeat refine c_r ?_
   have hp : isHost host glue = fun h => decide (foldN h.name = foldN host) := funext fun h => by unfold isHost; rw [hany]; rfl
   exact ⟨rfl, rfl, rfl, vq0, 223, [.pointer (some ⟨w.heap.size + 1, 0, Option.none⟩)], vr0, by rw [hp]; exact tell_N hE04 (Ext.at hE4 (up hB)) hh mh hG.nm⟩
 rintro _ σ1 _ w5 ⟨rfl, rfl, rfl, h3, g, cap, h7, htell⟩
 have p0' := cellO_ext hE4 p0
 repeat refine c_r ?_
 refine rg0 ?_
 repeat refine c_r ?_
 refine rg3 h3 p0' Nat.add_zero ?_
 repeat refine c_r ?_
 refine W_loop (fun m σ ds A => ds = [] ∧ ∃ (i : Nat) (ov : Value), i + m = N.hosts.length ∧ σ 20 = vi i ∧ σ 19 = vi N.hosts.length ∧ σ 18 = .slice ah N.hosts.length ch ∧ σ 7 = .func (.func g) #[] cap.toArray ∧ σ 9 = ov ∧ Own w5.heap.size A 3 ov ((pickI (isHost host glue) 0 (N.hosts.take i)).map vi) ∧ Ext w5 A) N.hosts.length ?_ ?_
 ·exact ⟨rfl, 0, .slice Option.none 0 0, by omega, vr0, vq0, vq0, (vq1 h7), vq0, Own.nil _ _ _, Keep.refl _ _⟩
 rintro m σ ds A ⟨rfl, i, ov, him, s20, s19, s18, s7, s9, hown, hEA⟩
 repeat refine c_r ?_
 refine rg2 s20 s19 ?_
 repeat refine c_r ?_
 refine wc0 ?_ ?_
 ·intro hlt
  simp only [decide_eq_true_eq] at hlt
  have hi : i < N.hosts.length := by omega
  have hi0 : (0 : Int) ≤ (i : Int) := by omega
  have hi1' : (i : Int) + 1 = ((i + 1 : Nat) : Int) := by push_cast; rfl
  obtain ⟨cs, hcs, hH⟩ := hgh i hi
  obtain ⟨xz, rfl⟩ := Option.isSome_iff_exists.1 (cellsO_some hcs)
  obtain ⟨xi, hxi⟩ : ∃ xi, adr (some xz) (i * 6) = some xi := ⟨_, rfl⟩
  rw [hxi] at hcs
  obtain ⟨hc6, hc1⟩ := hH.one
  have d := cellsO_ext (hE04.trans hEA) hcs
  repeat refine c_r ?_
  refine rq ?_; intro gd K hgd hK
  try simp (disch := first | omega | assumption | rfl) only [↓reduceIte, go_sem, Nat.reduceLT, Nat.reduceEqDiff, Nat.reduceSub, s20, s18, hi0, hlt, hxi, d]
  refine sv_new (P := Tryz.prog) (l := cs) (by rw [hc6]; rfl) hc1 (by rw [hc6]; rfl) rfl ?_
  intro A1 hE6 hs6 hB6
  try simp (disch := first | omega | assumption | rfl) only [↓reduceIte, go_sem, Nat.reduceLT, Nat.reduceEqDiff, Nat.reduceSub]
  refine hK _ _ ?_; clear hK hgd; clear K; try clear gd
  have d1 := sv_cells (n := 6) hB6 hc6.symm
  repeat refine c_r ?_
  refine rq ?_; intro gd K hgd hK
  try simp (disch := first | omega | assumption | rfl) only [↓reduceIte, go_sem, Nat.reduceLT, Nat.reduceEqDiff, Nat.reduceSub, s7, d1]
  refine call_of htell.call (Fn.mono (htell.tell A1 cs N.hosts[i] (hEA.trans hE6) (List.getElem_mem hi) hH) ?_)
  rintro _ A2 ⟨rfl, hE7⟩
  try simp (disch := first | omega | assumption | rfl) only [↓reduceIte, go_sem, Nat.reduceLT, Nat.reduceEqDiff, Nat.reduceSub]
  refine hK _ _ ?_; clear hK hgd; clear K; try clear gd
  have hE67 := hE6.trans hE7
  have hown2 := hown.ext hE67
  have hpk := pickI_take (p := isHost host glue) hi
  have hlen := pickI_len (p := isHost host glue) (l := N.hosts.take i) (i := 0)
  have hsz := (hEA.trans hE67).size
  repeat refine c_r ?_
  refine W_mono (Q := fun e σ' ds' v' => e = .normal ∧ ds' = [] ∧ σ' 20 = vi i ∧ σ' 19 = vi N.hosts.length ∧ σ' 18 = .slice (some xz) N.hosts.length ch ∧ σ' 7 = .func (.func g) #[] cap.toArray ∧ ∃ ov', σ' 9 = ov' ∧ Own w5.heap.size v' 3 ov' ((pickI (isHost host glue) 0 (N.hosts.take (i + 1))).map vi) ∧ Ext w5 v') ?_ ?_
  ·cases hb : isHost host glue N.hosts[i] with
   | false =>
    rw [hb, if_neg (by decide), List.append_nil] at hpk
    refine wf trivial ?_
    repeat refine c_r ?_
    exact ⟨rfl, rfl, (vq1 s20), (vq1 s19), (vq1 s18), (vq1 s7), ov, (vq1 s9), by rw [hpk]; exact hown2, hEA.trans hE67⟩
   | true =>
    rw [hb, if_pos rfl] at hpk
    refine wt trivial ?_
    repeat refine c_r ?_
    refine rq ?_; intro gd K hgd hK
    try simp (disch := first | omega | assumption | rfl) only [↓reduceIte, go_sem, Nat.reduceLT, Nat.reduceEqDiff, Nat.reduceSub, s9]
    refine bs_one (z := vi 0) (by rfl) (by rfl) (by rfl) (by rfl) (by rfl) ?_
    intro A3 hE8 hs8 ho8
    try simp (disch := first | omega | assumption | rfl) only [↓reduceIte, go_sem, Nat.reduceLT, Nat.reduceEqDiff, Nat.reduceSub]
    refine op_app (B := w5.heap.size) (hown2.ext hE8) ho8.row (by rfl) (by rfl) (by rfl) (by rfl) (by rfl) (by rfl) ((vr1 s9)) (vr0) (fun q hq => by rw [List.mem_singleton.1 hq]; rfl) (by simp at hlen ⊢; omega) (by decide) (by omega) ?_
    intro ov' A4 ho9 hE9 _ _
    try simp (disch := first | omega | assumption | rfl) only [↓reduceIte, go_sem, Nat.reduceLT, Nat.reduceEqDiff, Nat.reduceSub]
    refine hK _ _ ?_; clear hK hgd; clear K; try clear gd
    exact ⟨rfl, rfl, (vq1 s20), (vq1 s19), (vq1 s18), (vq1 s7), ov', vr0, by rw [hpk, List.map_append]; exact ho9, hE9 _ ((hEA.trans hE67).trans hE8) (Nat.le_refl _)⟩
  clear s20 s19 s18 s7 s9
  rintro _ σ2 _ A3 ⟨rfl, rfl, s20, s19, s18, s7, ov', s9, hown3, hE3⟩
  repeat refine c_r ?_
  refine rg2 s20 hi1' ?_
  repeat refine c_r ?_
  exact ⟨m - 1, by omega, rfl, i + 1, ov', by omega, vq0, (vq1 s19), (vq1 s18), (vq1 s7), (vq1 s9), hown3, hE3⟩
 ·intro hge
  simp only [decide_eq_false_iff_not] at hge
  rw [List.take_of_length_le (by omega)] at hown
  obtain ⟨ao, co, hov, hco, hgo⟩ := hown.row
  rw [hov] at s9
  repeat refine c_r ?_
  refine rc s9 (P_ci.Clip_ok hco) ?_
  rintro _ A1 ⟨rfl, rfl⟩
  refine re trivial ?_
  repeat refine c_r ?_
  refine rt0 Tryz.ntmps195 ?_
  exact ⟨hE34.trans hEA, ⟨ao, _, rfl, Nat.le_refl _, hgo⟩, ((hov ▸ hown.blk).same).mono hE34.size⟩
end Go.Proofs.YtopbbjdembnfdaaGreat
namespace Go.Proofs.YtopbbjdembnfdaaGreat.P_st
open Go Go.Proofs.YtopbbjdembnfdaaGreat
set_option maxRecDepth 10000
theorem Clip_ok {w : World} {a : Option Addr} {n c : Nat} (hc : n ≤ c) : Fn Tryz.prog 153 #[.slice a n c] w (fun u w' => u = .slice a n n ∧ w' = w) := by
 refine enter Tryz.func153 Tryz.ntmps153 rfl rfl ?_
 repeat refine c_r ?_
 refine rg0 ?_
 repeat refine c_r ?_
 refine rq ?_; intro gd K hgd hK
 try simp (disch := first | omega | assumption | rfl) only [↓reduceIte, go_sem, Nat.reduceLT, Nat.reduceEqDiff, Nat.reduceSub]
 have hcl : slD Tryz.prog (some (TypeDesc.slice 67)) (Value.slice a n c) Option.none (some (Value.int IntKind.i64 ↑n)) (some (Value.int IntKind.i64 ↑n)) = some (.slice a n n) := s_clip hc (by rfl)
 rw [hcl]
 try simp (disch := first | omega | assumption | rfl) only [↓reduceIte, go_sem, Nat.reduceLT, Nat.reduceEqDiff, Nat.reduceSub]
 refine hK _ _ ?_; clear hK hgd; clear K; try clear gd
 repeat refine c_r ?_
 refine rt0 Tryz.ntmps153 ?_
 exact ⟨rfl, rfl⟩
end Go.Proofs.YtopbbjdembnfdaaGreat.P_st
namespace Go.Proofs.YtopbbjdembnfdaaGreat
open Go
set_option maxRecDepth 10000
structure StateL where
 sv : Int
 name : Nm
 rw : Int
 rf : Int
 ref : Bool
 fin : Int
def stV (nv : Value) (s : StateL) : List Value := [vi s.sv, nv, vi s.rw, vi s.rf, .bool s.ref, vi s.fin]
def StN (nv : Value) (cs : List Value) (s : StateL) : Prop := cs = stV nv s ∧ one nv = true
structure StC (w : World) (cs : List Value) (s : StateL) : Prop where
 ex : ∃ nv, cs = stV nv s ∧ Row w nv (s.name.map vs)
theorem st_ones {nv : Value} {s : StateL} (h : one nv = true) : ∀ v ∈ stV nv s, one v = true := fun v hv => by
 unfold stV at hv
 simp at hv
 rcases hv with rfl | rfl | rfl | rfl | rfl | rfl <;> first | assumption | rfl
theorem st_shape (nv : Value) : Shape 6 (StN nv) := ⟨fun h => by rw [h.1]; rfl, fun h => by rw [h.1]; exact st_ones h.2⟩
theorem stC_of {w : World} {nv : Value} {v : Value} {l : List StateL} (h : Rows 6 (StN nv) w v l) (hn : ∀ s ∈ l, Row w nv (s.name.map vs)) : Rows 6 (StC w) w v l := by
 obtain ⟨L, h1, h2, h3⟩ := h
 exact ⟨L, h1, h2, fun i h h' => ⟨nv, (h3 i h h').1, hn _ (List.getElem_mem h')⟩⟩
def endS (s : StateL) (k : Int) : List StateL := [{ s with fin := k }]
def rootsS (N : NetL) (s : StateL) : List StateL := N.roots.map fun r => { s with sv := r }
theorem ends_ok (w : World) {nv : Value} {l : List Value} (hr : Row w nv l) (s : StateL) (k : Int) :
  Fn Tryz.prog 99 #[.agg (stV nv s).toArray, vi k] w (fun v w' => Ext w w' ∧ Rows 6 (StN nv) w' v (endS s k)) := by
 have h1 := hr.isOne
 obtain ⟨an, cn, hnv, _⟩ := hr
 unfold stV
 rw [hnv]
 refine enter Tryz.func99 Tryz.ntmps99 rfl rfl ?_
 repeat refine c_r ?_
 refine rg0 ?_
 rw [← hnv]
 repeat refine c_r ?_
 refine W_alloc1 ?_
 intro w1 hE1 hs1 hA
 refine rq ?_; intro gd K hgd hK
 try simp (disch := first | omega | assumption | rfl) only [↓reduceIte, go_sem, Nat.reduceLT, Nat.reduceEqDiff, Nat.reduceSub]
 refine sv_at (P := Tryz.prog) (t := 3) (j := 5) (u := vi k) (l := stV nv s) hA (by show 5 < 6; decide) rfl rfl rfl ?_
 intro w2 hs2 hA2 hk2
 try simp (disch := first | omega | assumption | rfl) only [↓reduceIte, go_sem, Nat.reduceLT, Nat.reduceEqDiff, Nat.reduceSub]
 refine hK _ _ ?_; clear hK hgd; clear K; try clear gd
 have hE2 := Keep.to_ext hE1 rfl (fun b hb => by omega) hk2
 have d : cellsO w2 (some ⟨w.heap.size, 0, Option.none⟩) 6 = some (stV nv { s with fin := k }) := sv_cells hA2 rfl
 repeat refine c_r ?_
 refine rq ?_; intro gd K hgd hK
 try simp (disch := first | omega | assumption | rfl) only [↓reduceIte, go_sem, Nat.reduceLT, Nat.reduceEqDiff, Nat.reduceSub, d]
 refine bs_oneR (C := StN nv) (st_shape nv) (l := stV nv { s with fin := k }) (by rfl) (by rfl) (by rfl) (by rfl) ⟨rfl, h1⟩ (by decide) ?_
 intro w3 hE3 hs3 ho3
 try simp (disch := first | omega | assumption | rfl) only [↓reduceIte, go_sem, Nat.reduceLT, Nat.reduceEqDiff, Nat.reduceSub]
 refine hK _ _ ?_; clear hK hgd; clear K; try clear gd
 repeat refine c_r ?_
 refine rt0 Tryz.ntmps99 ?_
 exact ⟨hE2.trans hE3, ho3.rows⟩
set_option maxHeartbeats 1000000 in
theorem roots_ok {w0 w : World} (hE0 : Ext w0 w) {cs : List Value} {N : NetL} (hN : NetAt w0 cs N) (hrl : N.roots.length ≤ 1000) {nv : Value} {l : List Value} (hr : Row w nv l) (s : StateL) :
  Fn Tryz.prog 97 #[.agg cs.toArray, .agg (stV nv s).toArray] w (fun v w' => Ext w w' ∧ Rows 6 (StN nv) w' v (rootsS N s)) := by
 have h1 := hr.isOne
 obtain ⟨an, cn, hnv, _⟩ := hr
 obtain ⟨hv, rv, rfl, hh, hro⟩ := hN.ex
 obtain ⟨ah, ch, hhv, _⟩ := hh.open
 obtain ⟨ar, cr, rfl, hcr, hgr⟩ := hro
 simp only [List.length_map] at hcr hgr
 unfold stV
 rw [hnv, hhv]
 refine enter Tryz.func97 Tryz.ntmps97 rfl rfl ?_
 repeat refine c_r ?_
 refine rq ?_; intro gd K hgd hK; simp (disch := first | omega | assumption | rfl) only [↓reduceIte, go_sem, Nat.reduceLT, Nat.reduceEqDiff, Nat.reduceSub, List.length_map]; refine hK _ _ ?_; clear hK hgd; clear K gd
 rw [← hnv, ← hhv]
 repeat refine c_r ?_
 rw [new_size]
 refine W_alloc2 ?_
 intro w1 hE1 hs1 hA hC
 have p1 : cellO w1 (some ⟨w.heap.size, 1, Option.none⟩) = some (.slice ar N.roots.length cr) := cellO_at hA rfl
 repeat refine c_r ?_
 refine rg0 ?_
 repeat refine c_r ?_
 refine rg2 p1 Nat.zero_add ?_
 repeat refine c_r ?_
 obtain ⟨b3, hb3⟩ : ∃ b, w.heap.size + 1 = b := ⟨_, rfl⟩
 rw [hb3] at hC ⊢
 refine W_loop (fun m σ ds A => ds = [] ∧ ∃ (i : Nat) (ov : Value) (s' : StateL), i + m = N.roots.length ∧ σ 11 = vi i ∧ σ 10 = vi N.roots.length ∧ σ 9 = .slice ar N.roots.length cr ∧ σ 3 = .pointer (some ⟨b3, 0, Option.none⟩) ∧ σ 5 = ov ∧ A.heap[b3]? = some (.cells (stV nv s').toArray 67 (0, 0)) ∧ (∃ k, s' = { s with sv := k }) ∧
  Owns 6 (StN nv) w1.heap.size A 67 ov ((N.roots.take i).map fun r => { s with sv := r }) ∧ Ext w A ∧ w1.heap.size ≤ A.heap.size) N.roots.length ?_ ?_
 ·exact ⟨rfl, 0, .slice Option.none 0 0, s, by omega, vr0, vq0, vq0, vq0, vq0, hC, ⟨s.sv, rfl⟩, Owns.nil _ _ _ _ _, hE1, Nat.le_refl _⟩
 rintro m σ ds A ⟨rfl, i, ov, s', him, s11, s10, s9, s3, s5, hB, ⟨k0, hs'⟩, hown, hEA, hsz⟩
 repeat refine c_r ?_
 refine rg2 s11 s10 ?_
 repeat refine c_r ?_
 refine wc0 ?_ ?_
 ·intro hlt
  simp only [decide_eq_true_eq] at hlt
  have hi : i < N.roots.length := by omega
  have hi0 : (0 : Int) ≤ (i : Int) := by omega
  have hi1' : (i : Int) + 1 = ((i + 1 : Nat) : Int) := by push_cast; rfl
  have hg := cellO_ext (hE0.trans hEA) (hgr i hi)
  rw [List.getElem_map] at hg
  obtain ⟨xz, rfl⟩ := Option.isSome_iff_exists.1 (some_of_cellO (hgr 0 (by omega)))
  have hszA := hEA.size
  repeat refine c_r ?_
  refine rq ?_; intro gd K hgd hK; simp (disch := first | omega | assumption | rfl) only [↓reduceIte, go_sem, Nat.reduceLT, Nat.reduceEqDiff, Nat.reduceSub, s11, s9, hi0, hlt, hg, Nat.mul_one]; refine hK _ _ ?_; clear hK hgd; clear K gd
  repeat refine c_r ?_
  refine rq ?_; intro gd K hgd hK
  try simp (disch := first | omega | assumption | rfl) only [↓reduceIte, go_sem, Nat.reduceLT, Nat.reduceEqDiff, Nat.reduceSub, s3]
  refine sv_at (P := Tryz.prog) (t := 3) (j := 0) (u := vi N.roots[i]) (l := stV nv s') hB (by show 0 < 6; decide) rfl rfl rfl ?_
  intro A1 hs6 hB1 hk1
  try simp (disch := first | omega | assumption | rfl) only [↓reduceIte, go_sem, Nat.reduceLT, Nat.reduceEqDiff, Nat.reduceSub]
  refine hK _ _ ?_; clear hK hgd; clear K; try clear gd
  have hB1' : A1.heap[b3]? = some (.cells (stV nv { s with sv := N.roots[i] }).toArray 67 (0, 0)) := by rw [hs'] at hB1; exact hB1
  have hE1' := Keep.to_ext hEA rfl (fun b hb => by omega) hk1
  have d : cellsO A1 (some ⟨b3, 0, Option.none⟩) 6 = some (stV nv { s with sv := N.roots[i] }) := sv_cells hB1' rfl
  have hown1 := hown.keep hk1 (fun b hb hb2 => by have := (hown.ge hb).1; omega)
  repeat refine c_r ?_
  refine rq ?_; intro gd K hgd hK
  try simp (disch := first | omega | assumption | rfl) only [↓reduceIte, go_sem, Nat.reduceLT, Nat.reduceEqDiff, Nat.reduceSub, s5, s3, d]
  refine bs_oneR (C := StN nv) (st_shape nv) (l := stV nv { s with sv := N.roots[i] }) (by rfl) (by rfl) (by rfl) (by rfl) ⟨rfl, h1⟩ (by decide) ?_
  intro A2 hE7 hs7 ho7
  try simp (disch := first | omega | assumption | rfl) only [↓reduceIte, go_sem, Nat.reduceLT, Nat.reduceEqDiff, Nat.reduceSub]
  refine op_appR (st_shape nv) (hown1.ext hE7) ho7.rows (by rfl) (by rfl) (by rfl) (by rfl) (by rfl) (by rfl) (by decide) ((vr1 s5)) (vr0) (by simp; omega) (by decide) (by omega) ?_
  intro ov' A3 ho8 hE8 hk8 _
  try simp (disch := first | omega | assumption | rfl) only [↓reduceIte, go_sem, Nat.reduceLT, Nat.reduceEqDiff, Nat.reduceSub]
  refine hK _ _ ?_; clear hK hgd; clear K; try clear gd
  have hsz3 := hk8.size
  repeat refine c_r ?_
  refine rg2 s11 hi1' ?_
  repeat refine c_r ?_
  refine ⟨m - 1, by omega, rfl, i + 1, ov', { s with sv := N.roots[i] }, by omega, vq0, (vq1 s10), (vq1 s9), (vq1 s3), vq0, ?_, ⟨_, rfl⟩, ?_, hE8 w (hE1'.trans hE7) (by omega), by omega⟩
  ·refine (hk8.block _ (by omega) (fun hb => ?_)).trans (Ext.at hE7 hB1')
   have := (hown1.ge hb).1; omega
  ·rw [take_succ' hi, List.map_append]; exact ho8
 ·intro hge
  simp only [decide_eq_false_iff_not] at hge
  have hfull : (N.roots.take i).map (fun r => ({ s with sv := r } : StateL)) = rootsS N s := by rw [List.take_of_length_le (by omega)]; rfl
  rw [hfull] at hown
  obtain ⟨ao, co, hov, hco, _⟩ := hown.rows.open
  rw [hov] at s5 hown
  repeat refine c_r ?_
  refine rc s5 (P_st.Clip_ok hco) ?_
  rintro _ A1 ⟨rfl, rfl⟩
  refine re trivial ?_
  repeat refine c_r ?_
  refine rt0 Tryz.ntmps97 ?_
  have := hown.rows.take (m := (rootsS N s).length) (c2 := (rootsS N s).length) (Nat.le_refl _) (Nat.le_refl _)
  rw [List.take_length] at this
  exact ⟨hEA, this⟩
theorem Start_ok {w0 w : World} (hE0 : Ext w0 w) {cs : List Value} {N : NetL} (hN : NetAt w0 cs N) (hrl : N.roots.length ≤ 1000) {nv : Value} {q : Nm} (hq : Row w nv (q.map vs)) :
  Fn Tryz.prog 36 #[.agg cs.toArray, nv] w (fun v w' => Ext w w' ∧ Rows 6 (StC w') w' v (rootsS N ⟨0, q, 0, 0, false, 0⟩)) := by
 have hN0 := hN
 obtain ⟨hv, rv, rfl, hh, hr⟩ := hN.ex
 obtain ⟨ah, ch, hhv, _⟩ := hh.open
 obtain ⟨ar, cr, hrv, _⟩ := id hr
 obtain ⟨an, cn, hnv, _⟩ := id hq
 refine enter Tryz.func36 Tryz.ntmps36 rfl rfl ?_
 repeat refine c_r ?_
 rw [hhv, hrv, hnv]
 refine rg0 ?_
 rw [← hhv, ← hrv, ← hnv]
 repeat refine c_r ?_
 refine W_alloc1 ?_
 intro w1 hE1 hs1 hA
 have d := sv_cells (n := 4) (l := [hv, rv, vi N.rw, vi N.rf]) hA rfl
 repeat refine c_r ?_
 refine rq ?_; intro gd K hgd hK
 try simp (disch := first | omega | assumption | rfl) only [↓reduceIte, go_sem, Nat.reduceLT, Nat.reduceEqDiff, Nat.reduceSub, d]
 refine ⟨by kernel_rfl, ?_⟩
 rw [hnv, show bdV Tryz.prog 67 [(1, .slice an (q.map vs).length cn)] = some (.agg #[vi 0, .slice an (q.map vs).length cn, vi 0, vi 0, .bool false, vi 0]) from by kernel_rfl, ← hnv]
 try simp (disch := first | omega | assumption | rfl) only [↓reduceIte, go_sem, Nat.reduceLT, Nat.reduceEqDiff, Nat.reduceSub]
 refine Fn.mono (roots_ok (hE0.trans hE1) hN0 hrl (hq.ext hE1) ⟨0, q, 0, 0, false, 0⟩) ?_
 rintro v w2 ⟨hE2, hrs⟩
 try simp (disch := first | omega | assumption | rfl) only [↓reduceIte, go_sem, Nat.reduceLT, Nat.reduceEqDiff, Nat.reduceSub]
 refine hK _ _ ?_; clear hK hgd; clear K; try clear gd
 repeat refine c_r ?_
 refine rt0 Tryz.ntmps36 ?_
 exact ⟨hE1.trans hE2, stC_of hrs (fun s hs => by
  obtain ⟨r, _, rfl⟩ := List.mem_map.1 hs
  exact hq.ext (hE1.trans hE2))⟩
def sameS (a b : StateL) : Bool := decide (foldN a.name = foldN b.name) && (decide (a.sv = b.sv) && (decide (a.rw = b.rw) && (decide (a.rf = b.rf) && ((a.ref == b.ref) && decide (a.fin = b.fin)))))
set_option maxHeartbeats 1000000 in
theorem SSame_ok (w : World) {ca cb : List Value} {a b : StateL} (ha : StC w ca a) (hb : StC w cb b) (ma : LB a.name) (mb : LB b.name) (la : a.name.length ≤ 1000000000000000) (lb : b.name.length ≤ 1000000000000000) :
  Fn Tryz.prog 42 #[.agg ca.toArray, .agg cb.toArray] w (fun v w' => v = .bool (sameS a b) ∧ Ext w w') := by
 obtain ⟨na, rfl, h1⟩ := ha.ex
 obtain ⟨nb, rfl, h2⟩ := hb.ex
 obtain ⟨a1, c1, hna, _⟩ := id h1
 obtain ⟨a2, c2, hnb, _⟩ := id h2
 unfold stV
 rw [hna, hnb]
 refine enter Tryz.func42 Tryz.ntmps42 rfl rfl ?_
 repeat refine c_r ?_
 refine rg0 ?_
 rw [← hna, ← hnb]
 repeat refine c_r ?_
 rw [new_size]
 refine W_alloc2 ?_
 intro w1 hE1 hs1 hA hB
 have pa : cellO w1 (some ⟨w.heap.size, 1, Option.none⟩) = some na := cellO_at hA rfl
 have pb : cellO w1 (some ⟨w.heap.size + 1, 1, Option.none⟩) = some nb := cellO_at hB rfl
 repeat refine c_r ?_
 refine rc (an3 pa pb Nat.zero_add) (Same_ok w1 na nb a.name b.name (h1.ext hE1) (h2.ext hE1) ma mb (by omega) (by omega)) ?_
 rintro _ w2 ⟨rfl, hE2⟩
 refine re trivial ?_
 have hs2 := hE2.size
 repeat refine c_r ?_
 refine rq ?_; intro gd K hgd hK
 try simp (disch := first | omega | assumption | rfl) only [↓reduceIte, go_sem, Nat.reduceLT, Nat.reduceEqDiff, Nat.reduceSub]
 refine sv_at (P := Tryz.prog) (t := 23) (j := 1) (u := .slice Option.none 0 0) (l := stV na a) (Ext.at hE2 hA) (by show 1 < 6; decide) rfl rfl rfl ?_
 intro w3 hs3 hA3 hk3
 try simp (disch := first | omega | assumption | rfl) only [↓reduceIte, go_sem, Nat.reduceLT, Nat.reduceEqDiff, Nat.reduceSub]
 refine sv_at (P := Tryz.prog) (t := 23) (j := 1) (u := .slice Option.none 0 0) (l := stV nb b) ((hk3.block _ (by omega) (by omega)).trans (Ext.at hE2 hB)) (by show 1 < 6; decide) rfl rfl rfl ?_
 intro w4 hs4 hB4 hk4
 try simp (disch := first | omega | assumption | rfl) only [↓reduceIte, go_sem, Nat.reduceLT, Nat.reduceEqDiff, Nat.reduceSub]
 refine hK _ _ ?_; clear hK hgd; clear K; try clear gd
 have hA4 := (hk4.block _ (by omega) (by omega)).trans hA3
 have hE4 : Ext w w4 := Keep.to_ext (Keep.to_ext (hE1.trans hE2) rfl (fun b hb => by omega) hk3) rfl (fun b hb => by omega) hk4
 have a0 : cellO w4 (some ⟨w.heap.size, 0, Option.none⟩) = some (vi a.sv) := cellO_at hA4 rfl
 have a2' : cellO w4 (some ⟨w.heap.size, 2, Option.none⟩) = some (vi a.rw) := cellO_at hA4 rfl
 have a3 : cellO w4 (some ⟨w.heap.size, 3, Option.none⟩) = some (vi a.rf) := cellO_at hA4 rfl
 have a4 : cellO w4 (some ⟨w.heap.size, 4, Option.none⟩) = some (.bool a.ref) := cellO_at hA4 rfl
 have a5 : cellO w4 (some ⟨w.heap.size, 5, Option.none⟩) = some (vi a.fin) := cellO_at hA4 rfl
 have b0 : cellO w4 (some ⟨w.heap.size + 1, 0, Option.none⟩) = some (vi b.sv) := cellO_at hB4 rfl
 have b2 : cellO w4 (some ⟨w.heap.size + 1, 2, Option.none⟩) = some (vi b.rw) := cellO_at hB4 rfl
 have b3 : cellO w4 (some ⟨w.heap.size + 1, 3, Option.none⟩) = some (vi b.rf) := cellO_at hB4 rfl
 have b4 : cellO w4 (some ⟨w.heap.size + 1, 4, Option.none⟩) = some (.bool b.ref) := cellO_at hB4 rfl
 have b5 : cellO w4 (some ⟨w.heap.size + 1, 5, Option.none⟩) = some (vi b.fin) := cellO_at hB4 rfl
 unfold sameS
 obtain ⟨x0, k0⟩ : ∃ x, decide (foldN a.name = foldN b.name) = x := ⟨_, rfl⟩
 obtain ⟨x1, k1⟩ : ∃ x, decide (a.sv = b.sv) = x := ⟨_, rfl⟩
 obtain ⟨x2, k2⟩ : ∃ x, decide (a.rw = b.rw) = x := ⟨_, rfl⟩
 obtain ⟨x3, k3⟩ : ∃ x, decide (a.rf = b.rf) = x := ⟨_, rfl⟩
 obtain ⟨x4, k4⟩ : ∃ x, (a.ref == b.ref) = x := ⟨_, rfl⟩
 obtain ⟨x5, k5⟩ : ∃ x, decide (a.fin = b.fin) = x := ⟨_, rfl⟩
 rw [k0, k1, k2, k3, k4, k5]
 repeat refine c_r ?_
 refine W_mono (Q := fun e σ' ds' v' => e = .normal ∧ ds' = [] ∧ v' = w4 ∧ σ' 4 = .bool (x0 && (x1 && (x2 && (x3 && (x4 && x5)))))) ?_ ?_
 ·cases x0
  ·refine rgg [(1, 14), (8, 21), (15, 28), (22, 35), (29, 42)] trivial ?_
   exact ⟨rfl, rfl, rfl, vr0⟩
  cases x1
  ·refine rgg [(1, 14), (8, 21), (15, 28), (22, 35), (29, 42)] (an4 a0 b0 k1 Nat.add_zero) ?_
   exact ⟨rfl, rfl, rfl, vr0⟩
  cases x2
  ·refine rgg [(1, 14), (8, 21), (15, 28), (22, 35), (29, 42)] (an8 a0 b0 k1 Nat.add_zero a2' b2 k2 Nat.zero_add) ?_
   exact ⟨rfl, rfl, rfl, vr0⟩
  cases x3
  ·refine rgg [(1, 14), (8, 21), (15, 28), (22, 35), (29, 42)] (an4 (an8 a0 b0 k1 Nat.add_zero a2' b2 k2 Nat.zero_add) a3 b3 k3) ?_
   exact ⟨rfl, rfl, rfl, vr0⟩
  cases x4
  ·refine rgg [(1, 14), (8, 21), (15, 28), (22, 35), (29, 42)] (an7 (an8 a0 b0 k1 Nat.add_zero a2' b2 k2 Nat.zero_add) a3 b3 k3 a4 b4 k4) ?_
   exact ⟨rfl, rfl, rfl, vr0⟩
  ·refine rgg [(1, 14), (8, 21), (15, 28), (22, 35), (29, 42)] (an2 (an7 (an8 a0 b0 k1 Nat.add_zero a2' b2 k2 Nat.zero_add) a3 b3 k3 a4 b4 k4) (an3 a5 b5 k5)) ?_
   exact ⟨rfl, rfl, rfl, vr0⟩
 rintro _ σ1 _ w5 ⟨rfl, rfl, rfl, h4⟩
 repeat refine c_r ?_
 refine rt1 h4 Tryz.ntmps42 ?_
 exact ⟨rfl, hE4⟩
def hintsG (to : Nm) : List (Nm × List DatL) → List DatL
 | [] => []
 | g :: l => if foldN g.1 = foldN to then g.2 else hintsG to l
theorem hints_mem {to : Nm} : ∀ {l : List (Nm × List DatL)}, hintsG to l = [] ∨ ∃ g ∈ l, hintsG to l = g.2
 | [] => .inl rfl
 | g :: l => by
  unfold hintsG
  split
  ·exact .inr ⟨g, List.mem_cons_self .., rfl⟩
  ·rcases hints_mem (to := to) (l := l) with h | ⟨x, hx, h⟩
   ·exact .inl h
   ·exact .inr ⟨x, List.mem_cons_of_mem _ hx, h⟩
set_option maxHeartbeats 1000000 in
theorem Hints_ok {w0 w : World} (hE0 : Ext w0 w) {cs : List Value} {r : ResL} {hv : Value} {to : Nm} (hr : ResAt w0 w cs r) (kr : ResOk r) (hh : Row w hv (to.map vs)) (mh : NmS to) :
  Fn Tryz.prog 196 #[.agg cs.toArray, hv] w (fun v w' => Ext w w' ∧ Rows 5 (DatAt w0) w' v (hintsG to r.glue)) := by
 obtain ⟨dv, nv, gv, rfl, h1, h2, h3⟩ := hr.ex
 obtain ⟨a1, c1, hdv, _⟩ := h1.open
 obtain ⟨a2, c2, hnv, _⟩ := id h2
 obtain ⟨ag, cg, rfl, hcg, hgg⟩ := h3.open
 have gl := kr.gl
 have ml := mh.len
 refine enter Tryz.func196 Tryz.ntmps196 rfl rfl ?_
 repeat refine c_r ?_
 rw [hdv, hnv]
 refine rg0 ?_
 rw [← hdv, ← hnv]
 repeat refine c_r ?_
 refine W_alloc1 ?_
 intro w1 hE1 hs1 hA
 have p4 : cellO w1 (some ⟨w.heap.size, 4, Option.none⟩) = some (.slice ag r.glue.length cg) := cellO_at hA rfl
 repeat refine c_r ?_
 refine rg2 p4 Nat.zero_add ?_
 repeat refine c_r ?_
 refine W_loop (fun m σ ds A => ds = [] ∧ ∃ (i : Nat), i + m = r.glue.length ∧ σ 10 = vi i ∧ σ 9 = vi r.glue.length ∧ σ 8 = .slice ag r.glue.length cg ∧ σ 1 = hv ∧ hintsG to r.glue = hintsG to (r.glue.drop i) ∧ Ext w A) r.glue.length ?_ ?_
 ·exact ⟨rfl, 0, by omega, vr0, vq0, vq0, vq0, rfl, hE1⟩
 rintro m σ ds A ⟨rfl, i, him, s10, s9, s8, s1, hgo, hEA⟩
 repeat refine c_r ?_
 refine rg2 s10 s9 ?_
 repeat refine c_r ?_
 refine wc0 ?_ ?_
 ·intro hlt
  simp only [decide_eq_true_eq] at hlt
  have hi : i < r.glue.length := by omega
  have hi0 : (0 : Int) ≤ (i : Int) := by omega
  have hi1' : (i : Int) + 1 = ((i + 1 : Nat) : Int) := by push_cast; rfl
  obtain ⟨cs, hcs, hG⟩ := hgg i hi
  obtain ⟨g, hge⟩ : ∃ g, r.glue[i] = g := ⟨_, rfl⟩
  rw [hge] at hG
  obtain ⟨gh, gdv, rfl, g1, g2⟩ := hG
  have kg := kr.g g (hge ▸ List.getElem_mem hi)
  have kgl := kg.1.len
  obtain ⟨xz, rfl⟩ := Option.isSome_iff_exists.1 (cellsO_some hcs)
  obtain ⟨xi, hxi⟩ : ∃ xi, adr (some xz) (i * 2) = some xi := ⟨_, rfl⟩
  rw [hxi] at hcs
  have d := cellsO_ext hEA hcs
  rw [List.drop_eq_getElem_cons hi, hge, show hintsG to (g :: r.glue.drop (i + 1)) = if foldN g.1 = foldN to then g.2 else hintsG to (r.glue.drop (i + 1)) from rfl] at hgo
  repeat refine c_r ?_
  refine rq ?_; intro gd K hgd hK
  try simp (disch := first | omega | assumption | rfl) only [↓reduceIte, go_sem, Nat.reduceLT, Nat.reduceEqDiff, Nat.reduceSub, s10, s8, hi0, hlt, hxi, d]
  refine sv_new (P := Tryz.prog) (l := [gh, gdv]) rfl (two_one g1.isOne g2.isOne) rfl rfl ?_
  intro A1 hE6 hs6 hB6
  try simp (disch := first | omega | assumption | rfl) only [↓reduceIte, go_sem, Nat.reduceLT, Nat.reduceEqDiff, Nat.reduceSub]
  refine hK _ _ ?_; clear hK hgd; clear K; try clear gd
  have q0 : cellO A1 (some ⟨A.heap.size, 0, Option.none⟩) = some gh := cellO_at hB6 rfl
  have q1 : cellO A1 (some ⟨A.heap.size, 1, Option.none⟩) = some gdv := cellO_at hB6 rfl
  have hE06 := hE0.trans (hEA.trans hE6)
  repeat refine c_r ?_
  refine rc (an3 q0 s1 Nat.add_zero) (Same_ok A1 gh hv g.1 to (g1.ext hE06) (hh.ext (hEA.trans hE6)) kg.1.lb mh.lb (by omega) (by omega)) ?_
  rintro _ A2 ⟨rfl, hE7⟩
  refine re trivial ?_
  have q1' := cellO_ext hE7 q1
  have hE67 := hE6.trans hE7
  repeat refine c_r ?_
  by_cases hs : foldN g.1 = foldN to
  ·refine wt (decide_eq_true hs) ?_
   rw [if_pos hs] at hgo
   repeat refine c_r ?_
   refine rg2 q1' Nat.zero_add ?_
   repeat refine c_r ?_
   refine rt0 Tryz.ntmps196 ?_
   rw [hgo]
   exact ⟨hEA.trans hE67, g2.ext (hEA.trans hE67)⟩
  ·refine wf (decide_eq_false hs) ?_
   rw [if_neg hs] at hgo
   repeat refine c_r ?_
   refine rg2 s10 hi1' ?_
   repeat refine c_r ?_
   exact ⟨m - 1, by omega, rfl, i + 1, by omega, vq0, (vq1 s9), (vq1 s8), (vq1 s1), hgo, hEA.trans hE67⟩
 ·intro hge
  simp only [decide_eq_false_iff_not] at hge
  rw [List.drop_eq_nil_of_le (by omega)] at hgo
  repeat refine c_r ?_
  refine rg0 ?_
  repeat refine c_r ?_
  refine rt0 Tryz.ntmps196 ?_
  rw [hgo]
  exact ⟨hEA, Rows.nil _ _ _⟩
def ofR (N : NetL) (r : ResL) (x : Nm) : List Int := meantL N x (hintsG x r.glue)
def encM (N : NetL) (r : ResL) (n0 : Nat) (x : Nm) (U : Nat → Prop) (A : World) (args : Array Value) : Prop := ∃ v B, args = #[v] ∧ Row A v ((ofR N r x).map vi) ∧ BlkB B A v ∧ (∀ b, U b → b < B) ∧ n0 ≤ B
theorem meant_ok (w : World) {a b c d e f g h k : Value} :
  Fn Tryz.prog 154 #[.agg #[a, b, c, d], .agg #[e, f, g, h, k]] w (fun v w' => v = .func (.func 194) #[] #[.pointer (some ⟨w.heap.size + 1, 0, Option.none⟩), .pointer (some ⟨w.heap.size, 0, Option.none⟩)] ∧ Ext w w' ∧ w'.heap.size = w.heap.size + 2 ∧
   w'.heap[w.heap.size]? = some (.cells #[a, b, c, d] 65 (0, 0)) ∧ w'.heap[w.heap.size + 1]? = some (.cells #[e, f, g, h, k] 31 (0, 0))) := by
 refine enter Tryz.func154 Tryz.ntmps154 rfl rfl ?_
 repeat refine c_r ?_
 refine rg0 ?_
 repeat refine c_r ?_
 rw [new_size]
 refine W_alloc2 ?_
 intro w1 hE1 hs1 hA hC
 refine rg0 ?_
 repeat refine c_r ?_
 refine rt0 Tryz.ntmps154 ?_
 exact ⟨rfl, hE1, hs1, hA, hC⟩
set_option maxHeartbeats 1000000 in
theorem meantIt {w0 w1 W0 : World} {C : Nat → Prop} {br bn : Nat} {cs cr : List Value} {N : NetL} {r : ResL} (hE01 : Ext w0 w1) (hE1 : Ext w1 W0) (hb : W0.heap[br]? = some (.cells cr.toArray 31 (0, 0))) (hn : W0.heap[bn]? = some (.cells cs.toArray 65 (0, 0)))
  (hC : ∀ b, C b → w1.heap.size ≤ b ∧ b < W0.heap.size) (hCb : ¬ C br) (hCn : ¬ C bn) (hN : NetAt w0 cs N) (hG : NetZ N) (hr : ResAt w0 w1 cr r) (kr : ResOk r) (hgood : ∀ n ∈ targetsL 2 r.data, NmM n) :
  IterU Tryz.prog 194 #[.pointer (some ⟨br, 0, Option.none⟩), .pointer (some ⟨bn, 0, Option.none⟩)] W0 W0.heap.size C 0 (fun pre x => ∃ suf, targetsL 2 r.data = pre ++ x :: suf) (fun xs => xs = targetsL 2 r.data) (encM N r) := by
 intro lp J Jx W hW hnW hJ hJx hY h0
 have hr0 := hr
 have hN0 := hN
 have hn4 := hN.one
 obtain ⟨dv, nv, gv, rfl, h1, h2, h3⟩ := hr.ex
 have dl := kr.dl
 obtain ⟨a1, c1, hdv, _⟩ := h1.open
 have hs1 := hE1.size
 have hbl := (Array.getElem?_eq_some_iff.1 hb).1
 have hnl := (Array.getElem?_eq_some_iff.1 hn).1
 have hE1W := hE1.trans hW
 have pd : cellO W (some ⟨br, 1, Option.none⟩) = some dv := cellO_at (Ext.at hW hb) rfl
 refine enter Tryz.func194 Tryz.ntmps194 rfl rfl ?_
 repeat refine c_r ?_
 refine rq ?_; intro gd K hgd hK
 try simp (disch := first | omega | assumption | rfl) only [↓reduceIte, go_sem, Nat.reduceLT, Nat.reduceEqDiff, Nat.reduceSub, pd]
 refine ⟨by kernel_rfl, ?_⟩
 rw [hdv, show bdV Tryz.prog 209 [(1, vi 2), (3, .slice a1 r.data.length c1)] = some (.agg #[.slice Option.none 0 0, vi 2, v32 0, .slice a1 r.data.length c1]) from by kernel_rfl, ← hdv]
 try simp (disch := first | omega | assumption | rfl) only [↓reduceIte, go_sem, Nat.reduceLT, Nat.reduceEqDiff, Nat.reduceSub]
 refine Fn.mono (Targets_ok (t := 2) (ow := .slice Option.none 0 0) (tl := v32 0) (hE01.trans hE1W) rfl rfl (h1.ext hE1W) dl) ?_
 rintro tv X ⟨hEX, htv, htb⟩
 obtain ⟨aT, cT, rfl, hcT, hgT⟩ := htv.open
 obtain ⟨L, hL⟩ : ∃ L, targetsL 2 r.data = L := ⟨_, rfl⟩
 rw [hL] at htv htb hcT hgood hY ⊢
 simp only [hL] at hgT
 try simp (disch := first | omega | assumption | rfl) only [↓reduceIte, go_sem, Nat.reduceLT, Nat.reduceEqDiff, Nat.reduceSub]
 refine hK _ _ ?_; clear hK hgd; clear K; try clear gd
 have hLl : L.length ≤ 1000000000 := by
  rw [← hL]; unfold targetsL
  split
  ·have := List.length_filterMap_le (fun d : DatL => d.names.head?) r.data; omega
  ·simp
 have hsX := hEX.size
 repeat refine c_r ?_
 refine W_loop (fun m σ ds' v => ds' = [] ∧ ∃ (i : Nat) (U : Nat → Prop), i + m = L.length ∧ σ 11 = vi i ∧ σ 10 = vi L.length ∧ σ 9 = .slice aT L.length cT ∧ σ 0 = .func (.yield lp) #[] #[] ∧ σ 1 = .pointer (some ⟨br, 0, Option.none⟩) ∧ σ 2 = .pointer (some ⟨bn, 0, Option.none⟩) ∧
  J (L.take i) U v ∧ (∀ b, U b → X.heap.size ≤ b ∧ b < v.heap.size) ∧ X.heap.size ≤ v.heap.size ∧ KeepB W0.heap.size C W v ∧ Ext w1 v ∧ Rows 1 (NmC w0) v (.slice aT L.length cT) L) L.length ?_ ?_
 ·exact ⟨rfl, 0, NoS, by omega, vr0, vq0, vq0, vq0, vq0, vq0, hJ _ _ _ _ h0 (hEX.mono (fun _ _ h => h.elim)), fun b h => h.elim, Nat.le_refl _, ext_toB hEX (by omega), hE1W.trans hEX, htv⟩
 rintro m σ ds' v ⟨rfl, i, U, him, s11, s10, s9, s0, s1, s2, hj, hU, hsv, hKB, hEv, hrow⟩
 repeat refine c_r ?_
 refine rg2 s11 s10 ?_
 repeat refine c_r ?_
 refine wc0 ?_ ?_
 ·intro hlt
  simp only [decide_eq_true_eq] at hlt
  have hi : i < L.length := by omega
  have hi0 : (0 : Int) ≤ (i : Int) := by omega
  have hi1' : (i : Int) + 1 = ((i + 1 : Nat) : Int) := by push_cast; rfl
  obtain ⟨h, hh⟩ : ∃ h, L[i] = h := ⟨_, rfl⟩
  have hgh : NmM h := hh ▸ hgood _ (List.getElem_mem hi)
  obtain ⟨cs', hcs, hv, rfl, hvr⟩ := hrow.get hi
  rw [hh] at hvr
  have hcell : cellO v (adr aT i) = some hv := by
   have := cell_of_cells hcs (j := 0) rfl
   rwa [Nat.mul_one, adr_zero] at this
  obtain ⟨xT, rfl⟩ := Option.isSome_iff_exists.1 (some_of_cellO hcell)
  have hbv : v.heap[br]? = some (.cells #[vi r.kind, dv, nv, .bool r.wild, gv] 31 (0, 0)) := (hKB.block _ (by omega) hCb).trans (Ext.at hW hb)
  have hnv : v.heap[bn]? = some (.cells cs.toArray 65 (0, 0)) := (hKB.block _ (by omega) hCn).trans (Ext.at hW hn)
  have db := sv_cells (n := 5) (l := [vi r.kind, dv, nv, .bool r.wild, gv]) hbv rfl
  have dn := sv_cells (n := 4) hnv hn4.1.symm
  have hE0v := hE01.trans hEv
  repeat refine c_r ?_
  refine rg5 s9 s11 hi0 hlt hcell ?_
  repeat refine c_r ?_
  refine W_drw (fun i => i == 7) [(0, true), (1, true), (2, true), (3, true), (4, true), (5, false), (6, false), (7, false), (8, true)] NoS mixed (by kernel_rfl) ?_; intro gd K x hgd hx hxe hK; clear hxe
  have dbx := cellsO_ext hx db
  have dnx := cellsO_ext hx dn
  simp (disch := first | omega | assumption | rfl) only [↓reduceIte, go_sem, Nat.reduceLT, Nat.reduceEqDiff, Nat.reduceSub, s0, s1, s2, dbx, dnx]
  have hE0x := hE0v.trans hx
  refine Fn.mono (Hints_ok hE0x ((hr0.ext hEv).ext hx) kr (hvr.ext hE0x) hgh.s) ?_
  rintro gv' y1 ⟨hy1, hg1⟩
  refine ⟨.inr hy1, ?_⟩
  have dny := cellsO_ext hy1 dnx
  have hgl : (hintsG h r.glue).length ≤ 1000000000 := by
   rcases hints_mem (to := h) (l := r.glue) with e | ⟨g, hg, e⟩
   ·rw [e]; simp
   ·rw [e]; exact (kr.g g hg).2.2
  simp (disch := first | omega | assumption | rfl) only [↓reduceIte, go_sem, Nat.reduceLT, Nat.reduceEqDiff, Nat.reduceSub]
  refine Fn.mono (Meant_ok (hE0x.trans hy1) hN0 hG hvr hgh hg1 hgl) ?_
  rintro mv y2 ⟨hy2, hm2, hB2⟩
  refine ⟨.inr hy2, ?_⟩
  have hvy := (hx.trans hy1).trans hy2
  have hsy := hvy.size
  have hsy1 := (hx.trans hy1).size
  simp (disch := first | omega | assumption | rfl) only [↓reduceIte, go_sem, Nat.reduceLT, Nat.reduceEqDiff, Nat.reduceSub, s0]
  refine Yld.mono (hY (L.take i) U h y2 _ ⟨L.drop (i + 1), by rw [← hh, ← List.drop_eq_getElem_cons, List.take_append_drop]⟩ (hJ _ _ _ _ hj (hvy.mono (fun _ _ h => h.elim))) (by omega) (hKB.trans (ext_toB hvy (by have := hKB.size; omega))) ⟨mv, _, rfl, hm2, hB2, fun b hb => by have := (hU b hb).2; omega, by omega⟩) ?_
  rintro u z (⟨rfl, U', hj', hU', hkr⟩ | ⟨rfl, hjx⟩)
  ·refine ⟨.inl rfl, ?_⟩
   simp (disch := first | omega | assumption | rfl) only [↓reduceIte, go_sem, Nat.reduceLT, Nat.reduceEqDiff, Nat.reduceSub]
   refine hK _ _ ?_; clear hK hgd; clear K; try clear gd
   have hzs := hkr.size
   have hCb : ∀ b, W.heap.size ≤ b → b < X.heap.size → ¬ (C b ∨ U b) := fun b h1 h2 h3 => by
    rcases h3 with h3 | h3
    ·have := hC b h3; omega
    ·have := hU b h3; omega
   have hrowz : Rows 1 (NmC w0) z (.slice (some xT) L.length cT) L := (hrow.ext hvy).blocks fun a n c hv => by
    have h1 := htb a n c hv
    exact hkr.block _ (by omega) (.inr (by omega)) (hCb _ (by omega) h1.2)
   have hKz : KeepB W0.heap.size C W z := (hKB.trans (ext_toB hvy (by have := hKB.size; omega))).trans ⟨hkr.os, hkr.tape, hkr.output, hkr.size, fun b hb hc => hkr.block b (by omega) (.inl hb) (fun h => by
    rcases h with h | h
    ·exact hc h
    ·have := hU b h; omega), hkr.drawn⟩
   have htk : L.take (i + 1) = L.take i ++ [h] := by rw [take_succ' hi, hh]
   repeat refine c_r ?_
   refine wf trivial ?_
   repeat refine c_r ?_
   refine rg2 s11 hi1' ?_
   repeat refine c_r ?_
   refine ⟨m - 1, by omega, rfl, i + 1, U', by omega, vq0, (vq1 s10), (vq1 s9), (vq1 s0), (vq1 s1), (vq1 s2), by rw [htk]; exact hj', fun b hb => ?_, by omega, hKz, keepB_ext hE1W hKz (by omega) (fun b hb => (hC b hb).1), hrowz⟩
   rcases hU' b hb with h | h
   ·have := hU b h; omega
   ·omega
  ·refine ⟨.inl rfl, ?_⟩
   simp (disch := first | omega | assumption | rfl) only [↓reduceIte, go_sem, Nat.reduceLT, Nat.reduceEqDiff, Nat.reduceSub]
   refine hK _ _ ?_; clear hK hgd; clear K; try clear gd
   repeat refine c_r ?_
   refine wt trivial ?_
   repeat refine c_r ?_
   refine ret_none (by simp) rfl (.inr ⟨_, _, ⟨L.drop (i + 1), by rw [← hh, ← List.drop_eq_getElem_cons, List.take_append_drop, hL]⟩, hjx⟩)
 ·intro hge
  simp only [decide_eq_false_iff_not] at hge
  repeat refine c_r ?_
  refine ret_none (by simp) rfl (.inl ⟨_, U, rfl, ?_⟩)
  rw [List.take_of_length_le (by omega)] at hj
  rw [hL]; exact hj
def aliasS (N : NetL) (s : StateL) (to : Nm) : List StateL := if s.rw ≥ N.rw then endS s 7 else if (bestN N s.sv to).2 = true then [{ s with rw := s.rw + 1, name := to, ref := false }] else rootsS N { s with rw := s.rw + 1, name := to, ref := false }
def hostS (N : NetL) (r : ResL) (s : StateL) (h : Nm) : List StateL := (if ((ofR N r h).length : Int) = 0 then endS s 9 else []) ++ (ofR N r h).map fun k => { s with sv := k, ref := true }
def referS (N : NetL) (s : StateL) (r : ResL) : List StateL := if s.rf ≥ N.rf then endS s 8 else (targetsL 2 r.data).flatMap (hostS N r { s with rf := s.rf + 1 })
theorem mem_ends {s x : StateL} {k : Int} (h : x ∈ endS s k) : x.name = s.name := by
 rw [List.mem_singleton.1 h]
set_option maxHeartbeats 1000000 in
theorem alias_ok {w0 w : World} (hE0 : Ext w0 w) {cs : List Value} {N : NetL} (hN : NetAt w0 cs N) (hG : NetZ N) {nv tv : Value} {s : StateL} {to : Nm} (hr : Row w nv (s.name.map vs)) (ht : Row w tv (to.map vs)) (mt : NmM to) (b0 : 0 ≤ s.rw) (b1 : s.rw ≤ 1000000) :
  Fn Tryz.prog 100 #[.agg (stV nv s).toArray, .agg cs.toArray, tv] w (fun v w' => Ext w w' ∧ Rows 6 (StC w') w' v (aliasS N s to)) := by
 have hN0 := hN
 obtain ⟨hv, rv, rfl, hh, hro⟩ := hN.ex
 obtain ⟨ah, ch, hhv, _⟩ := hh.open
 obtain ⟨ar, cr, hrv, _⟩ := id hro
 obtain ⟨an, cn, hnv, _⟩ := id hr
 have t1 := ht.isOne
 obtain ⟨at1, ct, htv, _⟩ := id ht
 unfold stV
 refine enter Tryz.func100 Tryz.ntmps100 rfl rfl ?_
 repeat refine c_r ?_
 rw [hhv, hrv, hnv]
 refine rg0 ?_
 rw [← hhv, ← hrv, ← hnv]
 repeat refine c_r ?_
 rw [new_size]
 refine W_alloc2 ?_
 intro w1 hE1 hs1 hA hB
 have p2 : cellO w1 (some ⟨w.heap.size, 2, Option.none⟩) = some (vi s.rw) := cellO_at hA rfl
 have q2 : cellO w1 (some ⟨w.heap.size + 1, 2, Option.none⟩) = some (vi N.rw) := cellO_at hB rfl
 have dA : cellsO w1 (some ⟨w.heap.size, 0, Option.none⟩) 6 = some (stV nv s) := sv_cells hA rfl
 repeat refine c_r ?_
 unfold aliasS
 by_cases hge : s.rw ≥ N.rw
 ·rw [if_pos hge]
  refine rg4 p2 q2 Nat.zero_add (decide_eq_true hge) ?_
  repeat refine c_r ?_
  refine wt trivial ?_
  repeat refine c_r ?_
  refine rc dA (ends_ok w1 (hr.ext hE1) s 7) ?_
  rintro v w2 ⟨hE2, hv2⟩
  refine re trivial ?_
  repeat refine c_r ?_
  refine rt0 Tryz.ntmps100 ?_
  exact ⟨hE1.trans hE2, stC_of hv2 fun x hx => by rw [mem_ends hx]; exact hr.ext (hE1.trans hE2)⟩
 rw [if_neg hge]
 refine rg4 p2 q2 Nat.zero_add (decide_eq_false hge) ?_
 repeat refine c_r ?_
 refine wf trivial ?_
 repeat refine c_r ?_
 refine rq ?_; intro gd K hgd hK
 try simp (disch := first | omega | assumption | rfl) only [↓reduceIte, go_sem, Nat.reduceLT, Nat.reduceEqDiff, Nat.reduceSub, p2, Nat.zero_add]
 refine sv_at (P := Tryz.prog) (t := 3) (j := 2) (u := vi (s.rw + 1)) (l := stV nv s) hA (by show 2 < 6; decide) rfl rfl rfl ?_
 intro w2 hs2 hA2 hk2
 try simp (disch := first | omega | assumption | rfl) only [↓reduceIte, go_sem, Nat.reduceLT, Nat.reduceEqDiff, Nat.reduceSub]
 refine hK _ _ ?_; clear hK hgd; clear K; try clear gd
 repeat refine c_r ?_
 refine rq ?_; intro gd K hgd hK
 try simp (disch := first | omega | assumption | rfl) only [↓reduceIte, go_sem, Nat.reduceLT, Nat.reduceEqDiff, Nat.reduceSub]
 refine sv_at (P := Tryz.prog) (t := 23) (j := 1) (u := tv) hA2 (by show 1 < 6; decide) t1 rfl rfl ?_
 intro w3 hs3 hA3 hk3
 try simp (disch := first | omega | assumption | rfl) only [↓reduceIte, go_sem, Nat.reduceLT, Nat.reduceEqDiff, Nat.reduceSub]
 refine sv_at (P := Tryz.prog) (t := 4) (j := 4) (u := .bool false) hA3 (by show 4 < 6; decide) rfl rfl rfl ?_
 intro w4 hs4 hA4 hk4
 try simp (disch := first | omega | assumption | rfl) only [↓reduceIte, go_sem, Nat.reduceLT, Nat.reduceEqDiff, Nat.reduceSub]
 refine hK _ _ ?_; clear hK hgd; clear K; try clear gd
 obtain ⟨s2, hs2e⟩ : ∃ s2 : StateL, { s with rw := s.rw + 1, name := to, ref := false } = s2 := ⟨_, rfl⟩
 have hA4' : w4.heap[w.heap.size]? = some (.cells (stV tv s2).toArray 67 (0, 0)) := by rw [← hs2e]; exact hA4
 have hE4 : Ext w w4 := Keep.to_ext (Keep.to_ext (Keep.to_ext hE1 rfl (fun b hb => by omega) hk2) rfl (fun b hb => by omega) hk3) rfl (fun b hb => by omega) hk4
 have hB4 := (hk4.block _ (by omega) (by omega)).trans ((hk3.block _ (by omega) (by omega)).trans ((hk2.block _ (by omega) (by omega)).trans hB))
 have dN : cellsO w4 (some ⟨w.heap.size + 1, 0, Option.none⟩) 4 = some [hv, rv, vi N.rw, vi N.rf] := sv_cells hB4 rfl
 have r0 : cellO w4 (some ⟨w.heap.size, 0, Option.none⟩) = some (vi s.sv) := by rw [← hs2e] at hA4'; exact cellO_at hA4' rfl
 have hE04 := hE0.trans hE4
 have mn : s2.name = to := by rw [← hs2e]
 rw [hs2e]
 repeat refine c_r ?_
 refine rc (an3 dN r0 Nat.add_zero) (Serves_ok (s := s.sv) hE04 hN0 hG (ht.ext hE4) mt) ?_
 rintro _ w5 ⟨rfl, hE5⟩
 refine re trivial ?_
 have hE45 := hE4.trans hE5
 have dS : cellsO w5 (some ⟨w.heap.size, 0, Option.none⟩) 6 = some (stV tv s2) := cellsO_ext hE5 (sv_cells hA4' rfl)
 have dN5 := cellsO_ext hE5 dN
 repeat refine c_r ?_
 cases hb : (bestN N s.sv to).2 with
 | true =>
  rw [if_pos rfl]
  refine wt trivial ?_
  repeat refine c_r ?_
  refine rq ?_; intro gd K hgd hK
  try simp (disch := first | omega | assumption | rfl) only [↓reduceIte, go_sem, Nat.reduceLT, Nat.reduceEqDiff, Nat.reduceSub, dS]
  refine bs_oneR (C := StN tv) (st_shape tv) (l := stV tv s2) (a := s2) (by rfl) (by rfl) (by rfl) (by rfl) ⟨rfl, t1⟩ (by decide) ?_
  intro w6 hE6 hs6 ho6
  try simp (disch := first | omega | assumption | rfl) only [↓reduceIte, go_sem, Nat.reduceLT, Nat.reduceEqDiff, Nat.reduceSub]
  refine hK _ _ ?_; clear hK hgd; clear K; try clear gd
  repeat refine c_r ?_
  refine rt0 Tryz.ntmps100 ?_
  exact ⟨hE45.trans hE6, stC_of ho6.rows fun x hx => by rw [List.mem_singleton.1 hx, mn]; exact ht.ext (hE45.trans hE6)⟩
 | false =>
  rw [if_neg Bool.false_ne_true]
  refine wf trivial ?_
  repeat refine c_r ?_
  refine rc (an2 dS dN5) (roots_ok (hE0.trans hE45) hN0 hG.rl (ht.ext hE45) s2) ?_
  rintro v w6 ⟨hE6, hv6⟩
  refine re trivial ?_
  repeat refine c_r ?_
  refine rt0 Tryz.ntmps100 ?_
  exact ⟨hE45.trans hE6, stC_of hv6 fun x hx => by
   obtain ⟨k, _, rfl⟩ := List.mem_map.1 hx
   show Row _ _ (s2.name.map vs)
   rw [mn]; exact ht.ext (hE45.trans hE6)⟩
theorem mem_hostS {N : NetL} {r : ResL} {s x : StateL} {h : Nm} (hx : x ∈ hostS N r s h) : x.name = s.name := by
 unfold hostS at hx
 rcases List.mem_append.1 hx with hx | hx
 ·split at hx
  ·exact mem_ends hx
  ·cases hx
 ·obtain ⟨k, _, rfl⟩ := List.mem_map.1 hx; rfl
theorem ofR_len {N : NetL} {r : ResL} {h : Nm} : (ofR N r h).length ≤ N.hosts.length := pickI_len
theorem hostS_len {N : NetL} {r : ResL} {s : StateL} {h : Nm} : (hostS N r s h).length ≤ N.hosts.length + 1 := by
 have := ofR_len (N := N) (r := r) (h := h)
 unfold hostS endS
 split <;> simp <;> omega
theorem flat_len {α β : Type} {f : α → List β} {k : Nat} (hf : ∀ a, (f a).length ≤ k) : ∀ l : List α, (l.flatMap f).length ≤ l.length * k
 | [] => by simp
 | a :: l => by
  have h1 := hf a
  have h2 := flat_len hf l
  rw [List.flatMap_cons, List.length_append, List.length_cons, Nat.succ_mul]
  omega
structure SRf (w Y : World) (b7 b3 n0 : Nat) (nv iv : Value) (U U' : Nat → Prop) (s2 : StateL) (L : List Int) (ov : Value) (G : List StateL) (v : World) : Prop where
 h7 : v.heap[b7]? = some (.cells #[ov] 75 (0, 0))
 own : Owns 6 (StN nv) n0 v 67 ov G
 u1 : ∀ b, some b = ov.ownBlock → U' b
 u2 : ∀ b, U' b → U b ∨ (Y.heap.size ≤ b ∧ b < v.heap.size)
 kb : KeepB Y.heap.size (fun b => b = b7 ∨ U b) Y v
 e : Ext w v
 h3 : v.heap[b3]? = some (.cells (stV nv s2).toArray 67 (0, 0))
 riv : Row v iv (L.map vi)
 blk : ∃ B, BlkB B Y iv ∧ (∀ b, U b → b < B) ∧ n0 ≤ B
 lo : w.heap.size ≤ b3 ∧ w.heap.size ≤ b7 ∧ b3 ≠ b7 ∧ b3 < n0 ∧ b7 < n0 ∧ n0 ≤ Y.heap.size ∧ ∀ b, U b → n0 ≤ b ∧ b < Y.heap.size
theorem SRf.app {w Y v v1 v2 v3 : World} {b7 b3 n0 : Nat} {nv iv ov ov' : Value} {U U' : Nat → Prop} {s2 : StateL} {L : List Int} {G news : List StateL} (h : SRf w Y b7 b3 n0 nv iv U U' s2 L ov G v) (hE : Ext v v1)
  (ho : Owns 6 (StN nv) n0 v2 67 ov' (G ++ news)) (hk : Keep (fun b => some b = ov.ownBlock) v1 v2) (hb : ∀ b, some b = ov'.ownBlock → some b = ov.ownBlock ∨ v1.heap.size ≤ b)
  (h7 : v3.heap[b7]? = some (.cells #[ov'] 75 (0, 0))) (hk3 : Keep (fun b => b = b7) v2 v3) : SRf w Y b7 b3 n0 nv iv U (fun b => U' b ∨ (v1.heap.size ≤ b ∧ b < v3.heap.size)) s2 L ov' (G ++ news) v3 := by
 obtain ⟨B, hB1, hB2, hB3⟩ := h.blk
 obtain ⟨l1, l2, l3, l4, l5, l6, l7⟩ := h.lo
 have z0 := h.kb.size
 have z1 := hE.size
 have z2 := hk.size
 have z3 := hk3.size
 have ow : ∀ b, some b = ov.ownBlock → n0 ≤ b ∧ b < v.heap.size := fun b hb => h.own.ge hb
 have low : ∀ b, some b = ov.ownBlock → b < Y.heap.size → U b := fun b hb hY => (h.u2 b (h.u1 b hb)).resolve_right (by omega)
 have k2 : KeepB Y.heap.size (fun b => b = b7 ∨ U b) v1 v2 := hk.toB (by omega) (fun b hY hb => .inr (low b hb hY))
 have k3 : KeepB Y.heap.size (fun b => b = b7 ∨ U b) v2 v3 := hk3.toB (by omega) (fun b hY hb => .inl hb)
 have e2 : Ext w v2 := Keep.to_ext (h.e.trans hE) rfl (fun b hb => by have := ow b hb; omega) hk
 refine ⟨h7, ho.keep hk3 (fun b hb hb2 => by have := ho.ge hb; omega), fun b hb' => ?_, fun b hb' => ?_, (h.kb.trans (ext_toB hE (by omega))).trans (k2.trans k3), Keep.to_ext e2 rfl (fun b hb => by omega) hk3, ?_, ?_, h.blk, h.lo⟩
 ·rcases hb b hb' with e | e
  ·exact .inl (h.u1 b e)
  ·have := ho.ge hb'; exact .inr (by omega)
 ·rcases hb' with e | e
  ·rcases h.u2 b e with e | e
   ·exact .inl e
   ·exact .inr (by omega)
  ·exact .inr (by omega)
 ·exact (hk3.block _ (by have := (Array.getElem?_eq_some_iff.1 h.h3).1; omega) (by omega)).trans ((hk.block _ (by have := (Array.getElem?_eq_some_iff.1 h.h3).1; omega) (fun hb => by have := ow _ hb; omega)).trans (Ext.at hE h.h3))
 ·have hivb : BlkB B v1 iv := hB1.ext (by omega)
  refine (((h.riv.ext hE).blocks fun a n c hv => hk.block _ (by have := (hB1 a n c hv).2; omega) (fun hb => ?_))).blocks fun a n c hv => hk3.block _ (by have := (hB1 a n c hv).2; omega) (by have := (hB1 a n c hv).1; omega)
  have h1 := (hB1 a n c hv)
  have := hB2 _ (low _ hb h1.2)
  omega
set_option maxHeartbeats 2000000 in
theorem refer_ok {w0 w : World} (hE0 : Ext w0 w) {cs cr : List Value} {N : NetL} {r : ResL} (hN : NetAt w0 cs N) (hG : NetZ N) {nv : Value} {s : StateL} (hr : Row w nv (s.name.map vs)) (hres : ResAt w0 w cr r) (kr : ResOk r) (kl : r.data.length ≤ 1000) (hgood : ∀ n ∈ targetsL 2 r.data, NmM n) (b0 : 0 ≤ s.rf) (b1 : s.rf ≤ 1000000) :
  Fn Tryz.prog 101 #[.agg (stV nv s).toArray, .agg cs.toArray, .agg cr.toArray] w (fun v w' => Ext w w' ∧ Rows 6 (StC w') w' v (referS N s r)) := by
 have hN0 := hN
 have hres0 := hres
 obtain ⟨hv, rv, rfl, hh, hro⟩ := hN.ex
 obtain ⟨dv, mv, gv, rfl, g1, g2, g3⟩ := hres.ex
 obtain ⟨ah, ch, hhv, _⟩ := hh.open
 obtain ⟨ar, cr, hrv, _⟩ := id hro
 obtain ⟨an, cn, hnv, _⟩ := id hr
 obtain ⟨ad, cd, hdv, _⟩ := g1.open
 obtain ⟨am, cm, hmv, _⟩ := id g2
 obtain ⟨ag, cg, hgv, _⟩ := g3.open
 have n1 := hr.isOne
 unfold stV
 refine enter Tryz.func101 Tryz.ntmps101 rfl rfl ?_
 repeat refine c_r ?_
 rw [hhv, hrv, hnv, hdv, hmv, hgv]
 refine rg0 ?_
 rw [← hhv, ← hrv, ← hnv, ← hdv, ← hmv, ← hgv]
 repeat refine c_r ?_
 rw [new_size, new_size, new_size]
 refine W_alloc3 ?_
 intro w1 hE1 hs1 hA hB hC
 have p3 : cellO w1 (some ⟨w.heap.size, 3, Option.none⟩) = some (vi s.rf) := cellO_at hA rfl
 have q3 : cellO w1 (some ⟨w.heap.size + 1, 3, Option.none⟩) = some (vi N.rf) := cellO_at hB rfl
 have dA : cellsO w1 (some ⟨w.heap.size, 0, Option.none⟩) 6 = some (stV nv s) := sv_cells hA rfl
 repeat refine c_r ?_
 unfold referS
 by_cases hge : s.rf ≥ N.rf
 ·rw [if_pos hge]
  refine rg4 p3 q3 Nat.zero_add (decide_eq_true hge) ?_
  repeat refine c_r ?_
  refine wt trivial ?_
  repeat refine c_r ?_
  refine rc dA (ends_ok w1 (hr.ext hE1) s 8) ?_
  rintro v w2 ⟨hE2, hv2⟩
  refine re trivial ?_
  repeat refine c_r ?_
  refine rt0 Tryz.ntmps101 ?_
  exact ⟨hE1.trans hE2, stC_of hv2 fun x hx => by rw [mem_ends hx]; exact hr.ext (hE1.trans hE2)⟩
 rw [if_neg hge]
 refine rg4 p3 q3 Nat.zero_add (decide_eq_false hge) ?_
 repeat refine c_r ?_
 refine wf trivial ?_
 repeat refine c_r ?_
 refine rq ?_; intro gd K hgd hK
 try simp (disch := first | omega | assumption | rfl) only [↓reduceIte, go_sem, Nat.reduceLT, Nat.reduceEqDiff, Nat.reduceSub, p3, Nat.zero_add]
 refine sv_at (P := Tryz.prog) (t := 3) (j := 3) (u := vi (s.rf + 1)) (l := stV nv s) hA (by show 3 < 6; decide) rfl rfl rfl ?_
 intro w2 hs2 hA2 hk2
 try simp (disch := first | omega | assumption | rfl) only [↓reduceIte, go_sem, Nat.reduceLT, Nat.reduceEqDiff, Nat.reduceSub]
 refine hK _ _ ?_; clear hK hgd; clear K; try clear gd
 obtain ⟨s2, hs2e⟩ : ∃ s2 : StateL, { s with rf := s.rf + 1 } = s2 := ⟨_, rfl⟩
 have hA2' : w2.heap[w.heap.size]? = some (.cells (stV nv s2).toArray 67 (0, 0)) := by rw [← hs2e]; exact hA2
 have mn : s2.name = s.name := by rw [← hs2e]
 rw [hs2e]
 have hE2 : Ext w w2 := Keep.to_ext hE1 rfl (fun b hb => by omega) hk2
 have hB2 := (hk2.block _ (by omega) (by omega)).trans hB
 have hC2 := (hk2.block _ (by omega) (by omega)).trans hC
 repeat refine c_r ?_
 refine rg0 ?_
 refine W_alloc1 ?_
 intro w3 hE3 hs3 hD
 obtain ⟨b7, hb7⟩ : ∃ b, w2.heap.size = b := ⟨_, rfl⟩
 rw [hb7] at hD hs3 ⊢
 have hE03 := hE2.trans hE3
 have dN : cellsO w3 (some ⟨w.heap.size + 1, 0, Option.none⟩) 4 = some [hv, rv, vi N.rw, vi N.rf] := sv_cells (Ext.at hE3 hB2) rfl
 have dR : cellsO w3 (some ⟨w.heap.size + 1 + 1, 0, Option.none⟩) 5 = some [vi r.kind, dv, mv, .bool r.wild, gv] := sv_cells (Ext.at hE3 hC2) rfl
 repeat refine c_r ?_
 refine rc (an2 dN dR) (meant_ok w3) ?_
 rintro _ w4 ⟨rfl, hE4, hs4, hbn, hbr⟩
 refine re trivial ?_
 have hE04 := hE03.trans hE4
 have hA4 := Ext.at (hE3.trans hE4) hA2'
 have hD4 := Ext.at hE4 hD
 repeat refine c_r ?_
 refine W_rangeU (g := 194) (cap := #[.pointer (some ⟨w3.heap.size + 1, 0, Option.none⟩), .pointer (some ⟨w3.heap.size, 0, Option.none⟩)]) (vq0) rfl (meantIt (C := fun b => b = b7) hE0 hE04 hbr hbn (fun b hb => by omega) (by omega) (by omega) hN0 hG hres0 kr hgood) (Keep.refl _ _) (Nat.le_refl _) (fun b hb => by omega) (fun x U A args h => by obtain ⟨_, _, e, _⟩ := h; rw [e]; rfl)
  (fun pre U A => Ext w A ∧ ∃ ov, A.heap[b7]? = some (.cells #[ov] 75 (0, 0)) ∧ Owns 6 (StN nv) (w4.heap.size + 2) A 67 ov (pre.flatMap (hostS N r s2)) ∧ (∀ b, some b = ov.ownBlock → U b) ∧ A.heap[w.heap.size]? = some (.cells (stV nv s2).toArray 67 (0, 0)))
  (fun _ _ _ => False) ?_ (fun _ _ _ _ h _ => h.elim) ?_ ?_ ?_ (fun _ _ _ _ _ _ h _ => h.elim)
 ·rintro pre U A B ⟨h1, ov, h2, h3, h4, h5⟩ hU hk
  have f : ∀ {b : Nat} {O : Obj}, A.heap[b]? = some O → b < w4.heap.size → B.heap[b]? = some O := fun h hb => (hk.block _ (Array.getElem?_eq_some_iff.1 h).1 (by unfold span; omega)).trans h
  exact ⟨Keep.to_ext h1 rfl (fun b hb => by unfold span at hb; omega) hk, ov, f h2 (by omega), h3.keep hk (fun b hb hb2 => by have := hU b (h4 b hb); unfold span at hb2; omega), h4, f h5 (by omega)⟩
 ·exact ⟨hE04, .slice Option.none 0 0, hD4, Owns.nil _ _ _ _ _, fun b hb => by simp [Value.ownBlock] at hb, hA4⟩
 ·rintro lp pre U y A args ⟨suf, hxs⟩ hszA ⟨hEA, ov, k7, hown, hU, k3⟩ hUb ⟨iv, B, rfl, hmv, hmb, hmB, hmn⟩
  refine rg0 ?_
  refine thenQ_normal ?_
  refine ⟨rfl, Keep.refl _ _, fun Y hY => ?_⟩
  have hsY := hY.size
  have f : ∀ {b : Nat} {O : Obj}, A.heap[b]? = some O → ¬ two w4.heap.size b → Y.heap[b]? = some O := fun h hb => (hY.block _ (Array.getElem?_eq_some_iff.1 h).1 hb).trans h
  have hEY : Ext w Y := Keep.to_ext hEA rfl (fun b hb => by unfold two at hb; omega) hY
  have hRI : SRf w Y b7 w.heap.size (w4.heap.size + 2) nv iv U U s2 (ofR N r y) ov (pre.flatMap (hostS N r s2)) Y := ⟨f k7 (by unfold two; omega), hown.keep hY (fun b hb hb2 => by have := (hown.ge hb).1; unfold two at hb2; omega), hU, fun b hb => .inl hb, KeepB.refl _ _ _, hEY, f k3 (by unfold two; omega), hmv.keepB hY hmb (fun b h1 _ h2 => by unfold two at h2; omega), ⟨B, hmb.ext hsY, hmB, hmn⟩, by omega, by omega, by omega, by omega, by omega, by omega, fun b hb => by have := hUb b hb; omega⟩
  clear hmv hmb hmB hmn hown hU k7 k3
  obtain ⟨L, hL⟩ : ∃ L, ofR N r y = L := ⟨_, rfl⟩
  have hLl : L.length ≤ 1000 := by
   have := ofR_len (N := N) (r := r) (h := y)
   have := hG.hl
   rw [← hL]; omega
  have hho : hostS N r s2 y = (if (L.length : Int) = 0 then endS s2 9 else []) ++ L.map fun k => { s2 with sv := k, ref := true } := by unfold hostS; rw [hL]
  have hpl : pre.length ≤ 1000 := by
   have h1 := congrArg List.length hxs
   have h2 : (targetsL 2 r.data).length ≤ r.data.length := by
    unfold targetsL
    split
    ·exact List.length_filterMap_le _ _
    ·simp
   simp at h1; omega
  have hGl : (pre.flatMap (hostS N r s2)).length ≤ 2000000 := by
   have h1 := flat_len (fun a => hostS_len (N := N) (r := r) (s := s2) (h := a)) pre
   have h2 := hG.hl
   have h3 : pre.length * (N.hosts.length + 1) ≤ 1000 * 1001 := Nat.mul_le_mul hpl (by omega)
   omega
  rw [hL] at hRI
  obtain ⟨ai, ci, rfl, hci, _⟩ := id hRI.riv
  simp only [List.length_map] at hRI hci ⊢
  obtain ⟨G, hGe⟩ : ∃ G, pre.flatMap (hostS N r s2) = G := ⟨_, rfl⟩
  rw [hGe] at hRI hGl
  have hb7n : b7 < w4.heap.size + 2 := by omega
  have hb3n : w.heap.size < w4.heap.size + 2 := by omega
  repeat refine c_r ?_
  refine rg0 ?_
  repeat refine c_r ?_
  refine W_mono (Q := fun e σ' ds' v' => e = .normal ∧ ds' = [] ∧ σ' 8 = .slice ai L.length ci ∧ σ' 3 = .pointer (some ⟨w.heap.size, 0, Option.none⟩) ∧ σ' 7 = .pointer (some ⟨b7, 0, Option.none⟩) ∧ ∃ ov' U', SRf w Y b7 w.heap.size (w4.heap.size + 2) nv (.slice ai L.length ci) U U' s2 L ov' (G ++ if (L.length : Int) = 0 then endS s2 9 else []) v') ?_ ?_
  ·by_cases h0 : (L.length : Int) = 0
   ·rw [if_pos h0]
    refine wt (decide_eq_true h0) ?_
    repeat refine c_r ?_
    refine W_drw (fun i => i == 4) [(0, true), (1, true), (2, false), (3, false), (4, false)] (above (w4.heap.size + 2)) mixed (by kernel_rfl) ?_; intro gd K x hgd hx hxe hK; have hx0 := drewX hxe; clear hxe
    have q7 : cellO x (some ⟨b7, 0, Option.none⟩) = some ov := cellO_at (Ext.at hx0 hRI.h7) rfl
    have q3 : cellsO x (some ⟨w.heap.size, 0, Option.none⟩) 6 = some (stV nv s2) := sv_cells (Ext.at hx0 hRI.h3) rfl
    simp (disch := first | omega | assumption | rfl) only [↓reduceIte, go_sem, Nat.reduceLT, Nat.reduceEqDiff, Nat.reduceSub, q7, q3]
    refine ⟨off_at hb7n, off_at hb3n, ?_⟩
    refine Fn.mono (ends_ok x (hr.ext (hRI.e.trans hx0)) s2 9) ?_
    rintro ev y1 ⟨hy1, hev⟩
    refine ⟨.inr hy1.keep, ?_⟩
    have sx := hx0.size
    have sy := hy1.size
    have sY := hRI.lo.2.2.2.2.2.1
    simp (disch := first | omega | assumption | rfl) only [↓reduceIte, go_sem, Nat.reduceLT, Nat.reduceEqDiff, Nat.reduceSub]
    refine op_appR (st_shape nv) (hRI.own.ext (hx0.trans hy1)) hev (by rfl) (by rfl) (by rfl) (by rfl) (by rfl) (by rfl) (by decide) (vr0) (vr0) (by unfold endS; simp; omega) (by decide) (by omega) ?_
    intro ov' y2 ho2 hE2 hk2 hb2
    refine ⟨.inr (hk2.mono fun b _ hb => (hRI.own.ge hb).1), ?_⟩
    obtain ⟨ao, co, hov, _⟩ := ho2.rows.open
    simp (disch := first | omega | assumption | rfl) only [↓reduceIte, go_sem, Nat.reduceLT, Nat.reduceEqDiff, Nat.reduceSub]
    refine sv_at (P := Tryz.prog) (t := 75) (j := 0) (u := ov') (l := [ov]) ((hk2.block _ (by omega) (fun hb => by have := (hRI.own.ge hb).1; omega)).trans (Ext.at (hx0.trans hy1) hRI.h7)) (by simp) (by rw [hov]; rfl) rfl rfl ?_
    intro y3 hs3 h73 hk3
    refine ⟨.inl rfl, ?_⟩
    simp (disch := first | omega | assumption | rfl) only [↓reduceIte, go_sem, Nat.reduceLT, Nat.reduceEqDiff, Nat.reduceSub]
    refine hK _ _ ?_; clear hK hgd; clear K; try clear gd
    exact ⟨rfl, rfl, vq0, vq0, vq0, ov', _, hRI.app (hx0.trans hy1) ho2 hk2 hb2 h73 hk3⟩
   ·rw [if_neg h0, List.append_nil]
    refine wf (decide_eq_false h0) ?_
    repeat refine c_r ?_
    exact ⟨rfl, rfl, vq0, vq0, vq0, ov, U, hRI⟩
  rintro _ σ1 _ Y1 ⟨rfl, rfl, s8, s3, s7, ov1, U1, hR1⟩
  obtain ⟨G1, hG1⟩ : ∃ G1, (G ++ if (L.length : Int) = 0 then endS s2 9 else []) = G1 := ⟨_, rfl⟩
  have hG1l : G1.length ≤ 2000001 := by
   rw [← hG1]; unfold endS
   split <;> simp <;> omega
  rw [hG1] at hR1
  repeat refine c_r ?_
  refine rg1 s8 ?_
  repeat refine c_r ?_
  refine W_loop (fun m σ ds v => ds = [] ∧ ∃ (i : Nat) (ov : Value) (U' : Nat → Prop), i + m = L.length ∧ σ 36 = vi i ∧ σ 35 = vi L.length ∧ σ 34 = .slice ai L.length ci ∧ σ 3 = .pointer (some ⟨w.heap.size, 0, Option.none⟩) ∧ σ 7 = .pointer (some ⟨b7, 0, Option.none⟩) ∧
   SRf w Y b7 w.heap.size (w4.heap.size + 2) nv (.slice ai L.length ci) U U' s2 L ov (G1 ++ (L.take i).map fun k => { s2 with sv := k, ref := true }) v) L.length ?_ ?_
  ·exact ⟨rfl, 0, ov1, U1, by omega, vr0, vq0, vq0, (vq1 s3), (vq1 s7), by simpa using hR1⟩
  clear s8 s3 s7
  rintro m σ ds v ⟨rfl, i, ov, U', him, s36, s35, s34, s3, s7, hR⟩
  repeat refine c_r ?_
  refine rg2 s36 s35 ?_
  repeat refine c_r ?_
  refine wc0 ?_ ?_
  ·intro hlt
   simp only [decide_eq_true_eq] at hlt
   have hi : i < L.length := by omega
   have hi0 : (0 : Int) ≤ (i : Int) := by omega
   have hi1' : (i : Int) + 1 = ((i + 1 : Nat) : Int) := by push_cast; rfl
   have hcell : cellO v (adr ai i) = some (vi L[i]) := by
    obtain ⟨a', c', e, _, hg⟩ := hR.riv
    injection e with e1 _ _
    subst e1
    have := hg i (by simpa using hi)
    simpa using this
   obtain ⟨xz, rfl⟩ := Option.isSome_iff_exists.1 (some_of_cellO hcell)
   have sY := hR.lo.2.2.2.2.2.1
   have sv0 := hR.kb.size
   have d3 : cellsO v (some ⟨w.heap.size, 0, Option.none⟩) 6 = some (stV nv s2) := sv_cells hR.h3 rfl
   repeat refine c_r ?_
   refine rq ?_; intro gd K hgd hK; simp (disch := first | omega | assumption | rfl) only [↓reduceIte, go_sem, Nat.reduceLT, Nat.reduceEqDiff, Nat.reduceSub, s36, s34, hi0, hlt, hcell, Nat.mul_one]; refine hK _ _ ?_; clear hK hgd; clear K gd
   repeat refine c_r ?_
   refine rq ?_; intro gd K hgd hK
   try simp (disch := first | omega | assumption | rfl) only [↓reduceIte, go_sem, Nat.reduceLT, Nat.reduceEqDiff, Nat.reduceSub, s3, d3]
   refine sv_new (P := Tryz.prog) (l := stV nv s2) rfl (st_ones n1) rfl rfl ?_
   intro v1 hE1 hs1 hB1
   try simp (disch := first | omega | assumption | rfl) only [↓reduceIte, go_sem, Nat.reduceLT, Nat.reduceEqDiff, Nat.reduceSub]
   refine hK _ _ ?_; clear hK hgd; clear K; try clear gd
   obtain ⟨bx, hbx⟩ : ∃ b, v.heap.size = b := ⟨_, rfl⟩
   rw [hbx] at hB1 hs1 ⊢
   repeat refine c_r ?_
   refine rq ?_; intro gd K hgd hK
   try simp (disch := first | omega | assumption | rfl) only [↓reduceIte, go_sem, Nat.reduceLT, Nat.reduceEqDiff, Nat.reduceSub]
   refine sv_at (P := Tryz.prog) (t := 3) (j := 0) (u := vi L[i]) (l := stV nv s2) hB1 (by show 0 < 6; decide) rfl rfl rfl ?_
   intro v2 hs2' hB2' hk2'
   try simp (disch := first | omega | assumption | rfl) only [↓reduceIte, go_sem, Nat.reduceLT, Nat.reduceEqDiff, Nat.reduceSub]
   refine sv_at (P := Tryz.prog) (t := 4) (j := 4) (u := .bool true) hB2' (by show 4 < 6; decide) rfl rfl rfl ?_
   intro v3 hs3' hB3' hk3'
   try simp (disch := first | omega | assumption | rfl) only [↓reduceIte, go_sem, Nat.reduceLT, Nat.reduceEqDiff, Nat.reduceSub]
   refine hK _ _ ?_; clear hK hgd; clear K; try clear gd
   obtain ⟨sk, hsk⟩ : ∃ sk : StateL, { s2 with sv := L[i], ref := true } = sk := ⟨_, rfl⟩
   have hB3 : v3.heap[bx]? = some (.cells (stV nv sk).toArray 67 (0, 0)) := by rw [← hsk]; exact hB3'
   have hEv : Ext v v3 := Keep.to_ext (Keep.to_ext hE1 rfl (fun b hb => by omega) hk2') rfl (fun b hb => by omega) hk3'
   have q7 : cellO v3 (some ⟨b7, 0, Option.none⟩) = some ov := cellO_at (Ext.at hEv hR.h7) rfl
   have dx : cellsO v3 (some ⟨bx, 0, Option.none⟩) 6 = some (stV nv sk) := sv_cells hB3 rfl
   repeat refine c_r ?_
   refine rq ?_; intro gd K hgd hK
   try simp (disch := first | omega | assumption | rfl) only [↓reduceIte, go_sem, Nat.reduceLT, Nat.reduceEqDiff, Nat.reduceSub, s7, q7, dx]
   refine bs_oneR (C := StN nv) (st_shape nv) (l := stV nv sk) (a := sk) (by rfl) (by rfl) (by rfl) (by rfl) ⟨rfl, n1⟩ (by decide) ?_
   intro v4 hE4' hs4' ho4
   try simp (disch := first | omega | assumption | rfl) only [↓reduceIte, go_sem, Nat.reduceLT, Nat.reduceEqDiff, Nat.reduceSub]
   refine op_appR (st_shape nv) (hR.own.ext (hEv.trans hE4')) ho4.rows (by rfl) (by rfl) (by rfl) (by rfl) (by rfl) (by rfl) (by decide) (vr0) (vr0) (by simp; omega) (by decide) (by omega) ?_
   intro ov' v5 ho5 hE5 hk5 hb5
   obtain ⟨ao, co, hov, _⟩ := ho5.rows.open
   try simp (disch := first | omega | assumption | rfl) only [↓reduceIte, go_sem, Nat.reduceLT, Nat.reduceEqDiff, Nat.reduceSub, s7]
   refine sv_at (P := Tryz.prog) (t := 75) (j := 0) (u := ov') (l := [ov]) ((hk5.block _ (by omega) (fun hb => by have := (hR.own.ge hb).1; omega)).trans (Ext.at (hEv.trans hE4') hR.h7)) (by simp) (by rw [hov]; rfl) rfl rfl ?_
   intro v6 hs6 h76 hk6
   try simp (disch := first | omega | assumption | rfl) only [↓reduceIte, go_sem, Nat.reduceLT, Nat.reduceEqDiff, Nat.reduceSub]
   refine hK _ _ ?_; clear hK hgd; clear K; try clear gd
   have hRn := hR.app (hEv.trans hE4') ho5 hk5 hb5 h76 hk6
   obtain ⟨U2, hU2⟩ : ∃ U2, (fun b => U' b ∨ (v4.heap.size ≤ b ∧ b < v6.heap.size)) = U2 := ⟨_, rfl⟩
   rw [hU2] at hRn
   repeat refine c_r ?_
   refine rg2 s36 hi1' ?_
   repeat refine c_r ?_
   refine ⟨m - 1, by omega, rfl, i + 1, ov', U2, by omega, vq0, (vq1 s35), (vq1 s34), (vq1 s3), (vq1 s7), ?_⟩
   rw [take_succ' hi, List.map_append, ← List.append_assoc, List.map_cons, List.map_nil, hsk]
   exact hRn
  ·intro hge
   simp only [decide_eq_false_iff_not] at hge
   have hfin : G1 ++ (L.take i).map (fun k => ({ s2 with sv := k, ref := true } : StateL)) = (pre ++ [y]).flatMap (hostS N r s2) := by
    rw [List.take_of_length_le (by omega), List.flatMap_append, hGe, List.flatMap_cons, List.flatMap_nil, List.append_nil, hho, ← hG1, List.append_assoc]
   rw [hfin] at hR
   repeat refine c_r ?_
   exact ⟨U', ⟨hR.e, ov, hR.h7, hR.own, hR.u1, hR.h3⟩, hR.u2, hR.kb.keep⟩
 ·rintro xs U A rfl hszA hUb ⟨hEA, ov, k7, hown, hU, k3⟩ hD
  obtain ⟨ao, co, rfl, hco, _⟩ := hown.rows.open
  have q7 : cellO A (some ⟨b7, 0, Option.none⟩) = some (.slice ao _ co) := cellO_at k7 rfl
  repeat refine c_r ?_
  refine rc q7 (P_st.Clip_ok hco) ?_
  rintro _ A1 ⟨rfl, rfl⟩
  refine re trivial ?_
  repeat refine c_r ?_
  refine ret_mark (.inr rfl) (by rfl) Tryz.ntmps101 (vr0) hD ?_
  intro Z hkZ hsZ
  have hrows := hown.rows.take (m := _) (c2 := _) (Nat.le_refl _) (Nat.le_refl _)
  rw [List.take_length] at hrows
  have hEZ : Ext w Z := Keep.to_ext hEA rfl (fun b hb => by omega) hkZ
  refine ⟨hEZ, stC_of (hrows.keep hkZ hown.blk.same (fun b h1 _ h2 => by omega)) fun x hx => ?_⟩
  obtain ⟨h, _, hx⟩ := List.mem_flatMap.1 hx
  rw [mem_hostS hx, mn]
  exact hr.ext hEZ
theorem foldB_two (c : UInt8) : foldB (foldB c) = foldB c := by
 by_cases h : 65 ≤ c ∧ c ≤ 90
 ·rw [foldB_up h]
  refine foldB_no (fun h2 => ?_)
  have a := UInt8.le_iff_toNat_le.1 h.1
  have b := UInt8.le_iff_toNat_le.1 h.2
  have d := UInt8.le_iff_toNat_le.1 h2.2
  simp at a b d
  have : (c + 32).toNat = c.toNat + 32 := by rw [UInt8.toNat_add]; simp; omega
  omega
 ·rw [foldB_no h, foldB_no h]
theorem foldL_two (l : List UInt8) : foldL (foldL l) = foldL l := by
 unfold foldL
 rw [List.map_map]
 exact List.map_congr_left fun c _ => foldB_two c
theorem foldN_two (n : Nm) : foldN (foldN n) = foldN n := by
 unfold foldN
 rw [List.map_map]
 exact List.map_congr_left fun c _ => foldL_two c
theorem foldL_length (l : List UInt8) : (foldL l).length = l.length := by simp [foldL]
def Alk (a b : ResL) : Prop := ∃ n, b = { a with name := n } ∧ foldN n = foldN a.name
theorem Alk.self (a : ResL) : Alk a a := ⟨a.name, rfl, rfl⟩
theorem Alk.kind {a b : ResL} (h : Alk a b) : b.kind = a.kind := by
 obtain ⟨n, rfl, h⟩ := h; rfl
section
variable {R : List RecL} {o q n : Nm} {t : Int}
theorem isL_fold (n : Nm) (t : Int) : isL (foldN n) t = isL n t := by
 funext r
 unfold isL
 rw [foldN_two]
theorem ofC_fold : ofC R (foldN n) t = ofC R n t := by unfold ofC; rw [isL_fold]
theorem datC_fold : datC R (foldN n) t = datC R n t := by unfold datC; rw [ofC_fold]
theorem hasL_fold : hasL R (foldN n) t = hasL R n t := by unfold hasL; rw [isL_fold]
theorem cutP_fold : cutP o R (foldN n) = cutP o R n := by unfold cutP; rw [hasL_fold, foldN_len]
theorem under_fold_l : under (foldN q) o = under q o := by
 unfold under
 rw [foldN_len, foldN_drop, foldN_drop, foldN_two]
theorem under_fold_r : under q (foldN o) = under q o := by
 unfold under
 rw [foldN_len, foldN_two]
theorem existsL_fold : existsL o R (foldN n) = existsL o R n := by
 unfold existsL
 rw [under_fold_l, foldN_len, show (fun r : RecL => under r.owner (foldN n)) = fun r => under r.owner n from funext fun r => under_fold_r]
theorem downF_fold (n : Nm) : ∀ k, downF (foldN n) k = (downF n k).map foldN
 | 0 => by simp only [downF, List.map_cons, List.map_nil]; rw [foldN_drop]
 | k + 1 => by simp only [downF, List.map_cons]; rw [downF_fold n k, foldN_drop]
theorem downs_fold : downs o (foldN q) = (downs o q).map foldN := by
 unfold downs
 rw [foldN_len]
 split
 ·exact downF_fold q _
 ·rfl
theorem takeWhile_mapF {p : Nm → Bool} (hp : ∀ n, p (foldN n) = p n) : ∀ l : List Nm, (l.map foldN).takeWhile p = (l.takeWhile p).map foldN
 | [] => rfl
 | a :: l => by
  simp only [List.map_cons, List.takeWhile_cons, hp]
  split
  ·rw [takeWhile_mapF hp l]; rfl
  ·rfl
theorem encl_fold : enclL o R (foldN q) = foldN (enclL o R q) := by
 unfold enclL
 rw [under_fold_l]
 split
 ·rw [downs_fold, takeWhile_mapF (fun n => existsL_fold), List.getLast?_map]
  cases ((downs o q).takeWhile (existsL o R)).getLast? with
  | none => rfl
  | some x => rfl
 ·rfl
theorem sourceN_fold : sourceN o R (foldN q) = foldN (sourceN o R q) := by
 unfold sourceN
 rw [encl_fold]; rfl
theorem owns_fold : ownsL R (foldN n) = ownsL R n := by
 unfold ownsL
 rw [foldN_two]
theorem source_fold : sourceL o R (foldN q) = (sourceL o R q).map foldN := by
 unfold sourceL
 rw [sourceN_fold, owns_fold]
 split <;> rfl
theorem at_fold {b : Bool} : atL R (foldN n) t b = atL R n t b := by
 unfold atL
 rw [datC_fold, datC_fold]
theorem refer_fold : Alk (referL R n) (referL R (foldN n)) := by
 refine ⟨foldN n, ?_, foldN_two n⟩
 unfold referL
 rw [datC_fold]
def LenN (a b : Nm) : Prop := a.map List.length = b.map List.length
theorem checkN_len_eq {a b : Nm} (h : LenN a b) : checkN a = checkN b := by
 have hs : lenN a = lenN b := by
  unfold lenN
  unfold LenN at h
  have e : ∀ n : Nm, n.map (fun l => 1 + l.length) = (n.map List.length).map (fun k => 1 + k) := fun n => by rw [List.map_map]; rfl
  rw [e a, e b, h]
 have he : ∀ l m : Lab, l.length = m.length → errL l = errL m := fun l m h => by
  unfold errL
  rw [h]
  cases l with
  | nil =>
   cases m with
   | nil => rfl
   | cons _ _ => cases h
  | cons _ _ =>
   cases m with
   | nil => cases h
   | cons _ _ => simp
 unfold checkN
 rw [hs]
 unfold LenN at h
 have : ∀ {a b : Nm}, a.map List.length = b.map List.length → (match a.find? (fun l => decide (errL l ≠ 0)) with
  | some l => errL l
  | Option.none => if 255 < lenN b then (3 : Int) else 0) = (match b.find? (fun l => decide (errL l ≠ 0)) with
  | some l => errL l
  | Option.none => if 255 < lenN b then (3 : Int) else 0) := by
  intro a b
  generalize (if 255 < lenN b then (3 : Int) else 0) = z
  clear h hs
  intro h
  induction a generalizing b with
  | nil =>
   cases b with
   | nil => rfl
   | cons _ _ => cases h
  | cons x a ih =>
   cases b with
   | nil => cases h
   | cons y b =>
    simp only [List.map_cons, List.cons.injEq] at h
    have hxy := he x y h.1
    have h2 := ih h.2
    simp only [List.find?_cons, hxy]
    by_cases hy : errL y = 0
    ·simp only [hy, ne_eq, not_true_eq_false, decide_false]
     exact h2
    ·simp only [ne_eq, hy, not_false_eq_true, decide_true]
     exact hxy
 exact this h
theorem swap_fold {t : Nm} : swapN (foldN q) (foldN n) t = foldN (q.take (q.length - n.length)) ++ t := by
 unfold swapN
 rw [foldN_len, foldN_len]
 congr 1
 unfold foldN
 rw [List.map_take]
theorem swap_fold_two {t : Nm} : foldN (swapN (foldN q) (foldN n) t) = foldN (swapN q n t) := by
 rw [swap_fold]
 unfold swapN
 unfold foldN
 rw [List.map_append, List.map_append]
 congr 1
 exact foldN_two _
theorem swap_fold_check {t : Nm} : checkN (swapN (foldN q) (foldN n) t) = checkN (swapN q n t) := by
 refine checkN_len_eq ?_
 rw [swap_fold]
 unfold swapN LenN
 rw [List.map_append, List.map_append]
 congr 1
 unfold foldN
 rw [List.map_map]
 exact List.map_congr_left fun l _ => foldL_length l
theorem renamed_fold : (renamedL R q n = Option.none ∧ renamedL R (foldN q) (foldN n) = Option.none) ∨ ∃ a b, renamedL R q n = some a ∧ renamedL R (foldN q) (foldN n) = some b ∧ Alk a b := by
 unfold renamedL
 rw [datC_fold, swap_fold_check]
 by_cases h : datC R n 39 = []
 ·rw [if_pos h, if_pos h]
  exact .inl ⟨rfl, rfl⟩
 rw [if_neg h, if_neg h]
 right
 by_cases hc : checkN (swapN q n (toN 39 ((datC R n 39).take 1))) = 0
 ·rw [if_pos hc, if_pos hc]
  exact ⟨_, _, rfl, rfl, _, rfl, swap_fold_two⟩
 ·rw [if_neg hc, if_neg hc]
  exact ⟨_, _, rfl, rfl, Alk.self _⟩
theorem go_fold : ∀ l : List Nm, (goL o R q l = Option.none ∧ goL o R (foldN q) (l.map foldN) = Option.none) ∨ ∃ a b, goL o R q l = some a ∧ goL o R (foldN q) (l.map foldN) = some b ∧ Alk a b
 | [] => .inl ⟨rfl, rfl⟩
 | n :: l => by
  simp only [List.map_cons, goL]
  rw [cutP_fold, foldN_len, foldN_len]
  by_cases hc : cutP o R n = true
  ·rw [if_pos hc, if_pos hc]
   exact .inr ⟨_, _, rfl, rfl, refer_fold⟩
  rw [if_neg hc, if_neg hc]
  by_cases hl : n.length = q.length
  ·rw [if_pos hl, if_pos hl]
   exact .inl ⟨rfl, rfl⟩
  rw [if_neg hl, if_neg hl]
  rcases renamed_fold (R := R) (q := q) (n := n) with ⟨h1, h2⟩ | ⟨a, b, h1, h2, h3⟩
  ·rw [h1, h2]
   exact go_fold l
  ·rw [h1, h2]
   exact .inr ⟨_, _, rfl, rfl, h3⟩
theorem look_fold : Alk (lookL o R q t) (lookL o R (foldN q) t) := by
 unfold lookL
 rw [under_fold_l]
 by_cases hu : under q o = false
 ·rw [if_pos hu, if_pos hu]
  exact Alk.self _
 rw [if_neg hu, if_neg hu, downs_fold]
 rcases go_fold (o := o) (R := R) (q := q) (downs o q) with ⟨h1, h2⟩ | ⟨a, b, h1, h2, h3⟩
 ·rw [h1, h2]
  show Alk (if existsL o R q = true then _ else _) (if existsL o R (foldN q) = true then _ else _)
  rw [existsL_fold]
  by_cases he : existsL o R q = true
  ·rw [if_pos he, if_pos he, at_fold]
   exact Alk.self _
  ·rw [if_neg he, if_neg he, source_fold]
   cases sourceL o R q with
   | none => exact Alk.self _
   | some s =>
    show Alk (atL R s t true) (atL R (foldN s) t true)
    rw [at_fold]
    exact Alk.self _
 ·rw [h1, h2]
  exact h3
end
/-! types -/
section
variable {R : List RecL} {o q n : Nm} {t u : Int}
theorem renamed_kind {r : ResL} (h : renamedL R q n = some r) : (r.kind = 5 ∨ r.kind = 6) ∧ (r.kind = 5 → ∀ d ∈ r.data, d.ty = 39) := by
 unfold renamedL at h
 split at h
 ·cases h
 ·split at h
  ·cases h
   exact ⟨.inl rfl, fun _ d hd => datC_ty (List.mem_of_mem_take hd)⟩
  ·cases h
   exact ⟨.inr rfl, fun h => by cases h⟩
theorem at_kind {b : Bool} : ((atL R n t b).kind = 1 ∨ (atL R n t b).kind = 2 ∨ (atL R n t b).kind = 5) ∧ ((atL R n t b).kind = 1 → ∀ d ∈ (atL R n t b).data, d.ty = t) ∧ ((atL R n t b).kind = 5 → ∀ d ∈ (atL R n t b).data, d.ty = 5) := by
 unfold atL
 split
 ·exact ⟨.inl rfl, (fun _ d hd => datC_ty hd), fun h => by cases h⟩
 ·split
  ·exact ⟨.inr (.inr rfl), (fun h => by cases h), fun _ d hd => datC_ty (List.mem_of_mem_take hd)⟩
  ·exact ⟨.inr (.inl rfl), (fun h => by cases h), fun h => by cases h⟩
end
/-! cuts -/
section
variable {R : List RecL} {o q : Nm} {t u : Int}
theorem downF_split {n : Nm} {i : Nat} : ∀ {K : Nat}, i ≤ K → ∃ suf, downF n K = downF (n.drop i) (K - i) ++ suf
 | 0, h => by
  have : i = 0 := by omega
  subst this
  exact ⟨[], by simp [downF]⟩
 | K + 1, h => by
  by_cases hi : i = K + 1
  ·subst hi
   refine ⟨downF n K, ?_⟩
   rw [show K + 1 - (K + 1) = 0 from by omega]
   simp [downF]
  ·obtain ⟨suf, hs⟩ := downF_split (n := n) (i := i) (K := K) (by omega)
   refine ⟨suf, ?_⟩
   rw [show K + 1 - i = (K - i) + 1 from by omega]
   simp only [downF, List.cons_append]
   rw [hs, List.drop_drop, show i + (K - i + 1) = K + 1 from by omega]
theorem downF_last {n : Nm} : ∀ {K : Nat}, ∃ pre, downF n K = pre ++ [n] ∧ ∀ x ∈ pre, ∃ i, 0 < i ∧ i ≤ K ∧ x = n.drop i
 | 0 => ⟨[], by simp [downF], fun x h => by cases h⟩
 | K + 1 => by
  obtain ⟨pre, h1, h2⟩ := downF_last (n := n) (K := K)
  refine ⟨n.drop (K + 1) :: pre, by simp only [downF, h1, List.cons_append], fun x hx => ?_⟩
  rcases List.mem_cons.1 hx with rfl | hx
  ·exact ⟨K + 1, by omega, Nat.le_refl _, rfl⟩
  ·obtain ⟨i, a, b, c⟩ := h2 x hx
   exact ⟨i, a, by omega, c⟩
theorem go_ahead {x : Nm} : ∀ {pre : List Nm} {suf : List Nm}, (∀ n ∈ pre, cutP o R n = false ∧ n.length ≠ x.length) → (∀ n ∈ pre, n.length ≠ q.length) →
  ((∀ n ∈ pre, datC R n 39 = []) ∧ goL o R q (pre ++ suf) = goL o R q suf) ∨ ((∃ n ∈ pre, datC R n 39 ≠ []) ∧ ∃ r, goL o R q (pre ++ suf) = some r ∧ (r.kind = 5 ∨ r.kind = 6))
 | [], suf, _, _ => .inl ⟨fun n h => (by cases h), rfl⟩
 | n :: pre, suf, h1, h2 => by
  obtain ⟨a, b⟩ := h1 n (List.mem_cons_self ..)
  have c := h2 n (List.mem_cons_self ..)
  simp only [List.cons_append, goL]
  rw [a, if_neg Bool.false_ne_true, if_neg c]
  by_cases hd : datC R n 39 = []
  ·have : renamedL R q n = Option.none := by unfold renamedL; rw [if_pos hd]
   rw [this]
   rcases go_ahead (suf := suf) (fun m hm => h1 m (List.mem_cons_of_mem _ hm)) (fun m hm => h2 m (List.mem_cons_of_mem _ hm)) with ⟨g1, g2⟩ | ⟨⟨m, hm, hm2⟩, g2⟩
   ·refine .inl ⟨fun m hm => ?_, g2⟩
    rcases List.mem_cons.1 hm with rfl | hm
    ·exact hd
    ·exact g1 m hm
   ·exact .inr ⟨⟨m, List.mem_cons_of_mem _ hm, hm2⟩, g2⟩
  ·right
   refine ⟨⟨n, List.mem_cons_self .., hd⟩, ?_⟩
   cases hr : renamedL R q n with
   | none =>
    unfold renamedL at hr
    rw [if_neg hd] at hr
    split at hr <;> cases hr
   | some r => exact ⟨r, rfl, (renamed_kind hr).1⟩
theorem find_split {α : Type} {p : α → Bool} {x : α} : ∀ {l : List α}, l.find? p = some x → ∃ pre suf, l = pre ++ x :: suf ∧ p x = true ∧ ∀ y ∈ pre, p y = false
 | [], h => by cases h
 | a :: l, h => by
  rw [List.find?_cons] at h
  split at h
  ·rename_i ha
   cases h
   exact ⟨[], l, rfl, ha, fun y h => by cases h⟩
  ·rename_i ha
   obtain ⟨pre, suf, h1, h2, h3⟩ := find_split h
   refine ⟨a :: pre, suf, by rw [h1]; rfl, h2, fun y hy => ?_⟩
   rcases List.mem_cons.1 hy with rfl | hy
   ·simpa using ha
   ·exact h3 y hy
theorem look_nocut (hu : under q o = true) (hc : cutL o R q = Option.none) : (lookL o R q t).kind ≠ 4 ∧ (lookL o R q t).kind ≠ 7 := by
 unfold cutL at hc
 rw [if_pos hu] at hc
 have hno : ∀ x ∈ downs o q, cutP o R x = false := fun x hx => by simpa using (List.find?_eq_none.1 hc) x hx
 have h4 : ∀ {l : List Nm} {r : ResL}, (∀ x ∈ l, cutP o R x = false) → goL o R q l = some r → r.kind = 5 ∨ r.kind = 6 := by
  intro l
  induction l with
  | nil => intro r _ h; cases h
  | cons n l ih =>
   intro r hl h
   simp only [goL] at h
   rw [hl n (List.mem_cons_self ..), if_neg Bool.false_ne_true] at h
   split at h
   ·cases h
   ·split at h
    ·rename_i r' hr
     cases h
     exact (renamed_kind hr).1
    ·exact ih (fun x hx => hl x (List.mem_cons_of_mem _ hx)) h
 unfold lookL
 rw [if_neg (by rw [hu]; simp)]
 cases hg : goL o R q (downs o q) with
 | some r =>
  have := h4 hno hg
  show r.kind ≠ 4 ∧ r.kind ≠ 7
  omega
 | none =>
  have key : ∀ {n : Nm} {b : Bool}, (atL R n t b).kind ≠ 4 ∧ (atL R n t b).kind ≠ 7 := fun {n b} => by
   have := (at_kind (R := R) (n := n) (t := t) (b := b)).1
   omega
  by_cases he : existsL o R q = true
  ·simp only [if_pos he]
   exact key
  ·simp only [if_neg he]
   cases sourceL o R q with
   | none => exact ⟨(by decide : (3 : Int) ≠ 4), (by decide : (3 : Int) ≠ 7)⟩
   | some s => exact key
theorem look_cut (hs : SortR R) {c : Nm} (hu : under q o = true) (hc : cutL o R q = some c) :
    (∃ k, k ≤ q.length ∧ c = q.drop k) ∧
    ((∀ t, lookL o R c t = referL R c) ∧ (∀ t, lookL o R q t = referL R c) ∧ datC R c 2 ≠ [] ∨
     (∀ t, (lookL o R c t).kind = 5 ∨ (lookL o R c t).kind = 6) ∧ ∀ t, (lookL o R q t).kind = 5 ∨ (lookL o R q t).kind = 6) := by
  unfold cutL at hc
  rw [if_pos hu] at hc
  have hol := under_len hu
  have hdn : downs o q = downF q (q.length - o.length) := if_pos hol
  rw [hdn] at hc
  obtain ⟨pre, suf, hsp, hcp, hpre⟩ := find_split hc
  obtain ⟨k, hk, hck⟩ := downF_mem.1 (show c ∈ downF q (q.length - o.length) from by rw [hsp]; simp)
  have hkl : k ≤ q.length := by omega
  refine ⟨⟨k, hkl, hck⟩, ?_⟩
  have hcl : c.length = q.length - k := by rw [hck, List.length_drop]
  have hol2 : o.length < c.length := by
    unfold cutP at hcp
    simp only [Bool.and_eq_true, decide_eq_true_eq] at hcp
    exact hcp.1
  have huc : under c o = true := by rw [hck, under_down hkl, hu, Bool.and_true]; exact decide_eq_true hk
  -- what is ahead of the cut is the same from the cut and from the name
  obtain ⟨suf2, hsf⟩ := downF_split (n := q) hk
  obtain ⟨pre2, hp2, hp3⟩ := downF_last (n := q.drop k) (K := q.length - o.length - k)
  have hdc : downs o c = pre2 ++ [c] := by
    unfold downs
    rw [if_pos (by omega), hck, List.length_drop, show q.length - k - o.length = q.length - o.length - k from by omega]
    exact hp2
  have hlen : ∀ x ∈ pre2, x.length < c.length := fun x hx => by
    obtain ⟨i, a, b, rfl⟩ := hp3 x hx
    rw [List.length_drop, List.length_drop]
    omega
  have hall : downF q (q.length - o.length) = pre2 ++ c :: suf2 := by
    rw [hsf, hp2, List.append_assoc, hck]; rfl
  have hpp : pre = pre2 := by
    have h1 : pre ++ c :: suf = pre2 ++ c :: suf2 := by rw [← hsp, hall]
    -- the first that is a cut
    have hx : ∀ x ∈ pre2, cutP o R x = false := by
      intro x hx
      -- lengths rise along the row
      have hrise : ∀ (K : Nat), (downF q K).Pairwise (fun a b => a.length ≤ b.length) := fun K => by
        induction K with
        | zero => simp [downF]
        | succ K ih =>
          simp only [downF]
          refine List.pairwise_cons.2 ⟨fun y hy => ?_, ih⟩
          obtain ⟨i, hi, rfl⟩ := downF_mem.1 hy
          rw [List.length_drop, List.length_drop]; omega
      have hr := hrise (q.length - o.length)
      have hx1 : x ∈ pre ++ c :: suf := by rw [h1]; exact List.mem_append_left _ hx
      rw [hsp] at hr
      rcases List.mem_append.1 hx1 with h | h
      · exact hpre x h
      · exfalso
        have hlx := hlen x hx
        rcases List.mem_cons.1 h with rfl | h
        · omega
        · have := (List.pairwise_append.1 hr).2.1
          have := (List.pairwise_cons.1 this).1 x h
          omega
    have key : ∀ {a b s1 s2 : List Nm}, a ++ c :: s1 = b ++ c :: s2 → (∀ x ∈ a, cutP o R x = false) → (∀ x ∈ b, cutP o R x = false) → a = b := by
      intro a
      induction a with
      | nil =>
        intro b s1 s2 h _ hb
        cases b with
        | nil => rfl
        | cons y b =>
          simp only [List.nil_append, List.cons_append, List.cons.injEq] at h
          have := hb y (List.mem_cons_self ..)
          rw [← h.1, hcp] at this
          cases this
      | cons x a ih =>
        intro b s1 s2 h ha hb
        cases b with
        | nil =>
          simp only [List.nil_append, List.cons_append, List.cons.injEq] at h
          have := ha x (List.mem_cons_self ..)
          rw [h.1, hcp] at this
          cases this
        | cons y b =>
          simp only [List.cons_append, List.cons.injEq] at h
          rw [h.1, ih h.2 (fun z hz => ha z (List.mem_cons_of_mem _ hz)) (fun z hz => hb z (List.mem_cons_of_mem _ hz))]
    exact key h1 hpre hx
  subst hpp
  have g1 := go_ahead (q := c) (x := c) (suf := [c]) (fun n hn => ⟨hpre n hn, by have := hlen n hn; omega⟩) (fun n hn => by have := hlen n hn; omega)
  have g2 := go_ahead (q := q) (x := c) (suf := c :: suf2) (fun n hn => ⟨hpre n hn, by have := hlen n hn; omega⟩) (fun n hn => by have := hlen n hn; omega)
  have hdq : downs o q = pre ++ c :: suf2 := by rw [hdn, hall]
  have lk : ∀ {y : Nm} {r : ResL} (t : Int), under y o = true → goL o R y (downs o y) = some r → lookL o R y t = r := fun {y r} t hy hr => by
    unfold lookL
    rw [if_neg (by rw [hy]; simp), hr]
  have hcc : ∀ y l, goL o R y (c :: l) = some (referL R c) := fun y l => by
    simp only [goL]
    rw [if_pos hcp]
  rcases g1 with ⟨a1, a2⟩ | ⟨⟨m, hm, hm2⟩, r, hr, hk1⟩
  · rcases g2 with ⟨_, b2⟩ | ⟨⟨m, hm, hm2⟩, _⟩
    · left
      refine ⟨fun t => lk t huc (by rw [hdc, a2, hcc]), fun t => lk t hu (by rw [hdq, b2, hcc]), ?_⟩
      unfold cutP hasL at hcp
      simp only [Bool.and_eq_true] at hcp
      obtain ⟨r, hr, hr2⟩ := List.any_eq_true.1 hcp.2
      have : r ∈ ofC R c 2 := by rw [ofC_sorted hs]; exact List.mem_filter.2 ⟨hr, hr2⟩
      intro e
      unfold datC at e
      rw [List.map_eq_nil_iff] at e
      rw [e] at this
      cases this
    · exact absurd (a1 m hm) hm2
  · right
    rcases g2 with ⟨b1, _⟩ | ⟨_, r2, hr2, hk2⟩
    · exact absurd (b1 m hm) hm2
    · refine ⟨fun t => ?_, fun t => ?_⟩
      · rw [lk t huc (by rw [hdc]; exact hr)]; exact hk1
      · rw [lk t hu (by rw [hdq]; exact hr2)]; exact hk2
end
end Go.Proofs.YtopbbjdembnfdaaGreat
