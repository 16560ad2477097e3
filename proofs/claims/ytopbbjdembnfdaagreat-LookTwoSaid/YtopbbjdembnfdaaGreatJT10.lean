/-
  Texts of a proof, joined: G6, G7, KR2, G8, L3, K25, L4.
  Conditions: none.
-/
import Derived.Test.YtopbbjdembnfdaaGreatJT09
import Derived.Test.YtopbbjdembnfdaaGreatJT03
import Derived.Test.YtopbbjdembnfdaaGreatJT04
set_option linter.unusedVariables false
set_option linter.unusedSimpArgs false
set_option linter.defProp false
set_option linter.unnecessarySimpa false
namespace Go.Proofs.YtopbbjdembnfdaaGreat
open Go
set_option maxRecDepth 10000

def Fr (A : World) (bad : Nat → Prop) (F : World → Prop) : Prop := ∀ x, Keep bad A x → F x
theorem Fr.self {A : World} {bad : Nat → Prop} {F : World → Prop} (h : Fr A bad F) : F A := h A (Keep.refl _ _)
theorem Fr.step {A A' : World} {bad bad' : Nat → Prop} {F : World → Prop} (h : Fr A bad F) (hk : Keep bad A A') (hb : ∀ b, bad' b → b < A.heap.size → bad b) : Fr A' bad' F := fun x hx =>
 h x ⟨hx.os.trans hk.os, hx.tape.trans hk.tape, hx.output.trans hk.output, Nat.le_trans hk.size hx.size, fun b hbl hn => (hx.block b (Nat.lt_of_lt_of_le hbl hk.size) (fun h => hn (hb b h hbl))).trans (hk.block b hbl hn), Nat.le_trans hk.drawn hx.drawn⟩
theorem Fr.ext {A A' : World} {bad bad' : Nat → Prop} {F : World → Prop} (h : Fr A bad F) (hk : Ext A A') (hb : ∀ b, bad' b → b < A.heap.size → bad b) : Fr A' bad' F :=
 h.step (hk.mono fun _ _ h => h.elim) hb

theorem DatX.fr {w0 A : World} {B : Nat} {nm : Value} {cs : List Value} {d : DatL} (h : DatX w0 B A nm cs d) (hE : Ext w0 A) {bad : Nat → Prop} (h1 : ∀ b, bad b → b < B) (h2 : ∀ b, bad b → w0.heap.size ≤ b) : Fr A bad (fun x => DatAt x cs d) := fun x hx =>
 (h.keep hx (fun a n c hv hb => by have := (h.blk a n c hv).1; have := h1 _ hb; omega)).at (Keep.to_ext hE rfl h2 hx)

abbrev DX := DatL × List Value
def dxC (cs : List Value) (x : DX) : Prop := cs = x.2 ∧ cs.length = 5 ∧ ∀ q ∈ cs, one q = true
theorem dx_shape : Shape 5 dxC := ⟨fun h => h.2.1, fun h => h.2.2⟩
theorem DatX.cells {w0 A : World} {B : Nat} {nm : Value} {cs : List Value} {d : DatL} (h : DatX w0 B A nm cs d) : cs.length = 5 ∧ ∀ q ∈ cs, one q = true := by
 obtain ⟨b1, m1, e1, b2, m2, e2, b3, m3, e3, b4, m4, e4, hds⟩ := h.open
 rw [hds]
 refine ⟨rfl, fun q hq => ?_⟩
 simp at hq
 rcases hq with rfl | rfl | rfl | rfl | rfl <;> rfl
structure DI (B : Nat) (bad : Nat → Prop) (A : World) (dv : Value) (G : List DX) : Prop where
 own : Owns 5 dxC B A 132 dv G
 fr : ∀ y ∈ G, Fr A (fun b => some b = dv.ownBlock ∨ bad b) (fun x => DatAt x y.2 y.1)
theorem DI.nil {B : Nat} {bad : Nat → Prop} {A : World} : DI B bad A (.slice Option.none 0 0) [] := ⟨Owns.nil _ _ _ _ _, fun y h => absurd h (by simp)⟩
theorem DI.app {B : Nat} {bad : Nat → Prop} {A A3 A4 A5 : World} {dv v' : Value} {G : List DX} {s : DX} (h : DI B bad A dv G) (h3 : Ext A A3) (hs : Fr A3 (fun b => some b = dv.ownBlock ∨ bad b) (fun x => DatAt x s.2 s.1)) (ho : Owns 5 dxC B A4 132 v' (G ++ [s]))
  (hk : Keep (fun b => some b = dv.ownBlock) A3 A4) (hb : ∀ b, some b = v'.ownBlock → some b = dv.ownBlock ∨ A3.heap.size ≤ b) (hk5 : Keep bad A4 A5) (hB : ∀ b, bad b → b < B) : DI B bad A5 v' (G ++ [s]) := by
 have hk35 : Keep (fun b => some b = dv.ownBlock ∨ bad b) A3 A5 := (hk.mono fun _ _ h => .inl h).trans (hk5.mono fun _ _ h => .inr h)
 refine ⟨ho.keep hk5 (fun b hb h => by have := (ho.ge hb).1; have := hB b h; omega), fun y hy => ?_⟩
 have hy3 : Fr A3 (fun b => some b = dv.ownBlock ∨ bad b) (fun x => DatAt x y.2 y.1) := by
  rcases List.mem_append.1 hy with hy | hy
  ·exact (h.fr y hy).ext h3 (fun b h _ => h)
  ·rw [List.mem_singleton.1 hy]; exact hs
 refine hy3.step hk35 (fun b hbb hlt => ?_)
 rcases hbb with hbb | hbb
 ·rcases hb b hbb with h | h
  ·exact .inl h
  ·omega
 ·exact .inr hbb
theorem DI.rows {B : Nat} {bad : Nat → Prop} {A : World} {dv : Value} {G : List DX} (h : DI B bad A dv G) (hB : ∀ b, bad b → b < B) : Fr A bad (fun x => Rows 5 (DatAt x) x dv (G.map Prod.fst)) := fun x hx =>
 (h.own.keep hx (fun b hb h2 => by have := (h.own.ge hb).1; have := hB b h2; omega)).rows.mapM Prod.fst (fun cs y hy hc => by
  rw [hc.1]
  exact h.fr y hy x (hx.mono fun _ _ h => .inr h))

def GF (y : GlX) (x : World) : Prop := Row x y.2.1 (y.1.1.map vs) ∧ Rows 5 (DatAt x) x y.2.2 y.1.2
structure GI (B : Nat) (bad : Nat → Prop) (A : World) (gv : Value) (G : List GlX) (F : World → Prop) : Prop where
 own : Owns 2 glC B A 143 gv G
 fr : ∀ y ∈ G, Fr A (fun b => some b = gv.ownBlock ∨ bad b) (GF y)
 dat : Fr A (fun b => some b = gv.ownBlock ∨ bad b) F
theorem GI.ext {B : Nat} {bad : Nat → Prop} {A A' : World} {gv : Value} {G : List GlX} {F : World → Prop} (h : GI B bad A gv G F) (hE : Ext A A') : GI B bad A' gv G F :=
 ⟨h.own.ext hE, fun y hy => (h.fr y hy).ext hE (fun b h _ => h), h.dat.ext hE (fun b h _ => h)⟩
theorem GI.app {B : Nat} {bad : Nat → Prop} {A A4 A5 : World} {gv v' : Value} {G : List GlX} {s : GlX} {F : World → Prop} (h : GI B bad A gv G F) (hs : Fr A (fun b => some b = gv.ownBlock ∨ bad b) (GF s)) (ho : Owns 2 glC B A4 143 v' (G ++ [s]))
  (hk : Keep (fun b => some b = gv.ownBlock) A A4) (hb : ∀ b, some b = v'.ownBlock → some b = gv.ownBlock ∨ A.heap.size ≤ b) (hk5 : Keep bad A4 A5) (hB : ∀ b, bad b → b < B) : GI B bad A5 v' (G ++ [s]) F := by
 have hk35 : Keep (fun b => some b = gv.ownBlock ∨ bad b) A A5 := (hk.mono fun _ _ h => .inl h).trans (hk5.mono fun _ _ h => .inr h)
 have hbb : ∀ b, (some b = v'.ownBlock ∨ bad b) → b < A.heap.size → (some b = gv.ownBlock ∨ bad b) := fun b hbb hlt => by
  rcases hbb with hbb | hbb
  ·rcases hb b hbb with h | h
   ·exact .inl h
   ·omega
  ·exact .inr hbb
 refine ⟨ho.keep hk5 (fun b hb h => by have := (ho.ge hb).1; have := hB b h; omega), fun y hy => ?_, h.dat.step hk35 hbb⟩
 rcases List.mem_append.1 hy with hy | hy
 ·exact (h.fr y hy).step hk35 hbb
 ·rw [List.mem_singleton.1 hy]; exact hs.step hk35 hbb

set_option maxHeartbeats 2000000 in
theorem ResOf_ok {w0 w : World} (hE0 : Ext w0 w) {cs : List Value} {r : ResL} (hr : ResAt w0 w cs r) (hk : ResOk r) (hnn : (∀ d ∈ r.data, d.names.length ≤ 1000000000) ∧ ∀ g ∈ r.glue, ∀ d ∈ g.2, d.names.length ≤ 1000000000) :
  Fn Tryz.prog 24 #[.agg cs.toArray] w (fun v w' => Ext w w' ∧ ∃ cs', v = .agg cs'.toArray ∧ ResAt w' w' cs' r) := by
 obtain ⟨dv, nv, gv, rfl, a1, a2, a3⟩ := hr.ex
 have hdl := hk.dl
 have hgl := hk.gl
 obtain ⟨aD, cD, rfl, hcD, hgD⟩ := a1.open
 obtain ⟨aN, cN, hnv, _⟩ := id a2
 obtain ⟨nN, hnN⟩ : ∃ nN, (r.name.map vs).length = nN := ⟨_, rfl⟩
 rw [hnN] at hnv
 obtain ⟨aG, cG, rfl, hcG, hgG⟩ := a3.open
 rw [hnv]
 refine enter Tryz.func24 Tryz.ntmps24 rfl rfl ?_
 repeat refine c_r ?_
 refine rg0 ?_
 repeat refine c_r ?_
 rw [new_size]
 refine W_alloc2 ?_
 intro w1 hE1 hs1 hA hC
 have p0 : cellO w1 (some ⟨w.heap.size, 0, Option.none⟩) = some (vi r.kind) := cellO_at hA rfl
 have p1 : cellO w1 (some ⟨w.heap.size, 1, Option.none⟩) = some (.slice aD r.data.length cD) := cellO_at hA rfl
 have p2 : cellO w1 (some ⟨w.heap.size, 2, Option.none⟩) = some (.slice aN nN cN) := cellO_at hA rfl
 have p3 : cellO w1 (some ⟨w.heap.size, 3, Option.none⟩) = some (.bool r.wild) := cellO_at hA rfl
 have p4 : cellO w1 (some ⟨w.heap.size, 4, Option.none⟩) = some (.slice aG r.glue.length cG) := cellO_at hA rfl
 refine rq ?_; intro gd K hgd hK
 try simp (disch := first | omega | assumption | rfl) only [↓reduceIte, go_sem, Nat.reduceLT, Nat.reduceEqDiff, Nat.reduceSub, p0, p2, p3, Nat.add_zero, Nat.zero_add]
 refine ⟨by kernel_rfl, ?_⟩
 rw [show bdV Tryz.prog 39 [(0, vi r.kind), (2, .slice aN nN cN), (3, .bool r.wild)] = some (.agg #[vi r.kind, .slice Option.none 0 0, .slice aN nN cN, .bool r.wild, .slice Option.none 0 0]) from by kernel_rfl]
 try simp (disch := first | omega | assumption | rfl) only [↓reduceIte, go_sem, Nat.reduceLT, Nat.reduceEqDiff, Nat.reduceSub]
 have hB3 := new_block w1 (.cells #[vi 0, .slice Option.none 0 0, .slice Option.none 0 0, .bool false, .slice Option.none 0 0] 39 (0, 0))
 have hE4 := Ext.alloc w1 (.cells #[vi 0, .slice Option.none 0 0, .slice Option.none 0 0, .bool false, .slice Option.none 0 0] 39 (0, 0))
 have hs4 := new_size w1 (.cells #[vi 0, .slice Option.none 0 0, .slice Option.none 0 0, .bool false, .slice Option.none 0 0] 39 (0, 0))
 revert hB3 hE4 hs4
 generalize w1.alloc (.cells #[vi 0, .slice Option.none 0 0, .slice Option.none 0 0, .bool false, .slice Option.none 0 0] 39 (0, 0)) = w2
 intro hB3 hE4 hs4
 refine sv_all (P := Tryz.prog) (t := 39) (l := [vi r.kind, .slice Option.none 0 0, .slice aN nN cN, .bool r.wild, .slice Option.none 0 0]) hB3 rfl (fun v h => by simp at h; rcases h with rfl | rfl | rfl | rfl | rfl <;> rfl) rfl rfl ?_
 intro w3 hs5 hB5 hk5
 try simp (disch := first | omega | assumption | rfl) only [↓reduceIte, go_sem, Nat.reduceLT, Nat.reduceEqDiff, Nat.reduceSub]
 refine hK _ _ ?_; clear hK hgd; clear K; try clear gd
 have hE13 : Ext w1 w3 := Keep.to_ext hE4 rfl (fun b hb => by omega) hk5
 obtain ⟨b3, hb3⟩ : ∃ b3, w1.heap.size = b3 := ⟨_, rfl⟩
 rw [hb3] at hB5
 have hs3 : w3.heap.size = b3 + 1 := by omega
 have h0s := hE0.size
 repeat refine c_r ?_
 refine rg0 ?_
 repeat refine c_r ?_
 rw [hb3]
 refine W_mono (Q := fun e σ' ds' A => e = .exit 0 ∧ ds' = [] ∧ σ' 1 = .pointer (some ⟨w.heap.size, 0, Option.none⟩) ∧ σ' 2 = .pointer (some ⟨w.heap.size + 1, 0, Option.none⟩) ∧ σ' 3 = .pointer (some ⟨b3, 0, Option.none⟩) ∧ Ext w1 A ∧ w3.heap.size ≤ A.heap.size ∧ ∃ (dv : Value) (G : List DX), A.heap[b3]? = some (.cells [vi r.kind, dv, .slice aN nN cN, .bool r.wild, .slice Option.none 0 0].toArray 39 (0, 0)) ∧ DI w3.heap.size (fun b => w.heap.size ≤ b ∧ b ≤ b3) A dv G ∧ G.map Prod.fst = r.data) ?_ ?_
 ·refine W_loop (fun m σ ds A => ds = [] ∧ ∃ (i : Nat) (dv : Value) (G : List DX), i + m = r.data.length ∧ σ 4 = vi i ∧ σ 1 = .pointer (some ⟨w.heap.size, 0, Option.none⟩) ∧ σ 2 = .pointer (some ⟨w.heap.size + 1, 0, Option.none⟩) ∧ σ 3 = .pointer (some ⟨b3, 0, Option.none⟩) ∧ Ext w1 A ∧ w3.heap.size ≤ A.heap.size ∧ A.heap[b3]? = some (.cells [vi r.kind, dv, .slice aN nN cN, .bool r.wild, .slice Option.none 0 0].toArray 39 (0, 0)) ∧ DI w3.heap.size (fun b => w.heap.size ≤ b ∧ b ≤ b3) A dv G ∧ G.map Prod.fst = r.data.take i) r.data.length ?_ ?_
  ·exact ⟨rfl, 0, .slice Option.none 0 0, [], by omega, vr0, vq0, vq0, vq0, hE13, Nat.le_refl _, hB5, DI.nil, rfl⟩
  rintro m σ ds A ⟨rfl, i, dv, G, him, h4, h1, h2, h3, hEA, hsA, hb, hDI, hG⟩
  have q1 := cellO_ext hEA p1
  repeat refine c_r ?_
  refine rg4 h4 h1 q1 Nat.zero_add ?_
  repeat refine c_r ?_
  refine wc0 ?_ ?_
  ·intro hlt
   simp only [decide_eq_true_eq] at hlt
   have hi : i < r.data.length := by omega
   have hi0 : (0 : Int) ≤ (i : Int) := by omega
   have hi1 : (i : Int) < (r.data.length : Int) := by omega
   have hi1' : (i : Int) + 1 = ((i + 1 : Nat) : Int) := by push_cast; rfl
   have hGl : G.length = i := by
    have := congrArg List.length hG
    simp at this; omega
   obtain ⟨cd, hcd, hDd⟩ := hgD i hi
   obtain ⟨d, hdd⟩ : ∃ d, r.data[i] = d := ⟨_, rfl⟩
   rw [hdd] at hDd
   have hdn := hnn.1 d (hdd ▸ List.getElem_mem hi)
   obtain ⟨xD, rfl⟩ := Option.isSome_iff_exists.1 (cellsO_some hcd)
   obtain ⟨xi, hxi⟩ : ∃ xi, adr (some xD) (i * 5) = some xi := ⟨_, rfl⟩
   rw [hxi] at hcd
   have hxb : xi.block < w.heap.size := cells_lt hcd (by decide) rfl
   have hcA := cellsO_ext (hE1.trans hEA) hcd
   have hdv : cellO A (some ⟨b3, 1, Option.none⟩) = some dv := sv_get hb rfl
   repeat refine c_r ?_
   refine W_drw (fun i => i == 11) [(0, true), (1, true), (2, true), (3, true), (4, true), (5, true), (6, true), (7, false), (8, false), (9, false), (10, true), (11, false)] (above w3.heap.size) mixed (by kernel_rfl) ?_; intro gd K x hgd hx hxe hK; have hx0 := drewX hxe; clear hxe
   have hcx := cellsO_ext hx0 hcA
   have hdx := cellO_ext hx0 hdv
   have q1x := cellO_ext hx0 q1
   have hxs := hx.size
   simp (disch := first | omega | assumption | rfl) only [↓reduceIte, go_sem, Nat.reduceLT, Nat.reduceEqDiff, Nat.reduceSub, h4, h1, h3, q1x, hcx, hdx, hi0, hi1, hxi, Nat.zero_add]
   refine ⟨off_at (by omega), off_at (by omega), off_of (by omega), ?_⟩
   refine Fn.mono (DOf_ok (hE0.trans ((hE1.trans hEA).trans hx0)) hDd hdn) ?_
   rintro _ A2 ⟨hA2, cs', nm', rfl, hX⟩
   refine ⟨.inr hA2.keep, ?_⟩
   have hA2s := hA2.size
   simp (disch := first | omega | assumption | rfl) only [↓reduceIte, go_sem, Nat.reduceLT, Nat.reduceEqDiff, Nat.reduceSub]
   refine bs_oneR (l := cs') (a := ((d, cs') : DX)) dx_shape rfl rfl rfl rfl ⟨rfl, hX.cells.1, hX.cells.2⟩ (by decide) ?_
   intro A3 hA3 hs6 ho3
   refine ⟨.inr hA3.keep, ?_⟩
   simp (disch := first | omega | assumption | rfl) only [↓reduceIte, go_sem, Nat.reduceLT, Nat.reduceEqDiff, Nat.reduceSub]
   have hx3 := (hx0.trans hA2).trans hA3
   refine op_appR dx_shape (hDI.own.ext hx3) ho3.rows rfl rfl rfl rfl rfl rfl (by decide) (vr0) (vr0) (by simp; omega) (by decide) (by omega) ?_
   intro v7 A4 ho7 hE7 hk7 hb7
   refine ⟨.inr (hk7.mono fun b _ hb => by have := (hDI.own.ge hb).1; show _ ≤ _; omega), ?_⟩
   have hk7s := hk7.size
   simp (disch := first | omega | assumption | rfl) only [↓reduceIte, go_sem, Nat.reduceLT, Nat.reduceEqDiff, Nat.reduceSub, h3]
   obtain ⟨a7, c7, hv7, _⟩ := ho7.rows.open
   have hb4 : A4.heap[b3]? = some (.cells [vi r.kind, dv, .slice aN nN cN, .bool r.wild, .slice Option.none 0 0].toArray 39 (0, 0)) := (hk7.block b3 (by omega) (fun h => by have := (hDI.own.ge h).1; omega)).trans (Ext.at hx3 hb)
   refine sv_at (P := Tryz.prog) (t := 36) (j := 1) (l := [vi r.kind, dv, .slice aN nN cN, .bool r.wild, .slice Option.none 0 0]) hb4 (by simp) (by rw [hv7]; rfl) rfl rfl ?_
   intro z hz' hbz hkz
   refine ⟨.inl rfl, ?_⟩
   simp (disch := first | omega | assumption | rfl) only [↓reduceIte, go_sem, Nat.reduceLT, Nat.reduceEqDiff, Nat.reduceSub]
   refine hK _ _ ?_; clear hK hgd; clear K; try clear gd
   have hs : Fr A3 (fun b => some b = dv.ownBlock ∨ (w.heap.size ≤ b ∧ b ≤ b3)) (fun x => DatAt x cs' d) := (hX.fr (hE0.trans (((hE1.trans hEA).trans hx0).trans hA2)) (bad := fun b => some b = dv.ownBlock ∨ (w.heap.size ≤ b ∧ b ≤ b3)) (fun b hb => by
    rcases hb with hb | hb
    ·have := (hDI.own.ge hb).2; omega
    ·omega) (fun b hb => by
    have := hE1.size
    rcases hb with hb | hb
    ·have := (hDI.own.ge hb).1; omega
    ·omega)).ext hA3 (fun b h _ => h)
   have hnew := hDI.app (s := ((d, cs') : DX)) hx3 hs ho7 hk7 hb7 (hkz.mono (T := fun b => w.heap.size ≤ b ∧ b ≤ b3) (fun b _ h => by have := hE1.size; omega)) (fun b hb => by omega)
   have hEz : Ext w1 z := Keep.to_ext (hE7 w1 (hEA.trans hx3) (by omega)) rfl (fun b hb => by omega) hkz
   repeat refine c_r ?_
   refine rg2 h4 hi1' ?_
   repeat refine c_r ?_
   exact ⟨m - 1, by omega, rfl, i + 1, v7, _, by omega, vq0, (vq1 h1), (vq1 h2), (vq1 h3), hEz, by omega, hbz, hnew, by rw [List.map_append, hG, take_succ' hi, hdd]; rfl⟩
  ·intro hge
   simp only [decide_eq_false_iff_not] at hge
   have hi : i = r.data.length := by omega
   rw [hi, List.take_length] at hG
   repeat refine c_r ?_
   exact ⟨rfl, rfl, (vq1 h1), (vq1 h2), (vq1 h3), hEA, hsA, dv, G, hb, hDI, hG⟩
 rintro _ σ1 _ A ⟨rfl, rfl, h1, h2, h3, hEA, hsA, dv, G, hb, hDI, hG⟩
 have hdata := hDI.rows (fun b hb => by omega)
 rw [hG] at hdata
 obtain ⟨ad, cd, hdv, _⟩ := hdata.self.open
 repeat refine c_r ?_
 refine rg0 ?_
 repeat refine c_r ?_
 have hgi0 : GI w3.heap.size (fun b => w.heap.size ≤ b ∧ b ≤ b3) A (.slice Option.none 0 0) [] (fun x => Rows 5 (DatAt x) x dv r.data) := ⟨Owns.nil _ _ _ _ _, fun y h => absurd h (by simp), hdata.step (Keep.refl _ _) (fun b h _ => by
  rcases h with h | h
  ·cases h
  ·exact h)⟩
 refine W_loop (fun m σ ds A => ds = [] ∧ ∃ (i : Nat) (gv : Value) (G : List GlX), i + m = r.glue.length ∧ σ 5 = vi i ∧ σ 1 = .pointer (some ⟨w.heap.size, 0, Option.none⟩) ∧ σ 2 = .pointer (some ⟨w.heap.size + 1, 0, Option.none⟩) ∧ σ 3 = .pointer (some ⟨b3, 0, Option.none⟩) ∧ Ext w1 A ∧ w3.heap.size ≤ A.heap.size ∧ A.heap[b3]? = some (.cells [vi r.kind, dv, .slice aN nN cN, .bool r.wild, gv].toArray 39 (0, 0)) ∧ GI w3.heap.size (fun b => w.heap.size ≤ b ∧ b ≤ b3) A gv G (fun x => Rows 5 (DatAt x) x dv r.data) ∧ G.map Prod.fst = r.glue.take i) r.glue.length ?_ ?_
 ·exact ⟨rfl, 0, .slice Option.none 0 0, [], by omega, vr0, (vq1 h1), (vq1 h2), (vq1 h3), hEA, hsA, hb, hgi0, rfl⟩
 clear hdata hgi0 hb hDI hG hsA hEA h1 h2 h3
 rintro m σ ds A ⟨rfl, i, gv, GG, him, h5, h1, h2, h3, hEA, hsA, hb, hGI, hGG⟩
 have q4 := cellO_ext hEA p4
 repeat refine c_r ?_
 refine rg4 h5 h1 q4 Nat.zero_add ?_
 repeat refine c_r ?_
 refine wc0 ?_ ?_
 ·intro hlt
  simp only [decide_eq_true_eq] at hlt
  have hi : i < r.glue.length := by omega
  have hi0 : (0 : Int) ≤ (i : Int) := by omega
  have hi1 : (i : Int) < (r.glue.length : Int) := by omega
  have hi1' : (i : Int) + 1 = ((i + 1 : Nat) : Int) := by push_cast; rfl
  have hGl : GG.length = i := by
   have := congrArg List.length hGG
   simp at this; omega
  obtain ⟨cg, hcg, hCg⟩ := hgG i hi
  obtain ⟨g, hgg⟩ : ∃ g, r.glue[i] = g := ⟨_, rfl⟩
  rw [hgg] at hCg
  have hgok := hk.g g (hgg ▸ List.getElem_mem hi)
  have hgn := hnn.2 g (hgg ▸ List.getElem_mem hi)
  have hg2 := hgok.2.2
  obtain ⟨hv, gd0, rfl, c1, c2⟩ := hCg
  obtain ⟨aE, cE, rfl, hcE, hgE⟩ := c2.open
  obtain ⟨xG, rfl⟩ := Option.isSome_iff_exists.1 (cellsO_some hcg)
  obtain ⟨yi, hyi⟩ : ∃ yi, adr (some xG) (i * 2) = some yi := ⟨_, rfl⟩
  rw [hyi] at hcg
  have rg : ∀ {x}, Ext w1 x → cellO x (some yi) = some hv ∧ cellO x (adr (some yi) 1) = some (.slice aE g.2.length cE) := fun {x} hx => by
   have hcx := cellsO_ext (hE1.trans hx) hcg
   have e0 := cell_of_cells hcx (j := 0) rfl
   rw [adr_zero] at e0
   exact ⟨e0, cell_of_cells hcx (j := 1) rfl⟩
  obtain ⟨g0, g1⟩ := rg hEA
  obtain ⟨ha, hc, hve, _⟩ := id c1
  obtain ⟨hn, hhn⟩ : ∃ hn, (g.1.map vs).length = hn := ⟨_, rfl⟩
  rw [hhn] at hve
  repeat refine c_r ?_
  refine rq ?_; intro gd K hgd hK
  try simp (disch := first | omega | assumption | rfl) only [↓reduceIte, go_sem, Nat.reduceLT, Nat.reduceEqDiff, Nat.reduceSub, h5, h1, q4, hi0, hi1, hyi, g0, Nat.zero_add, adr_zero]
  refine ⟨by kernel_rfl, ?_⟩
  rw [hve, show bdV Tryz.prog 143 [(0, .slice ha hn hc)] = some (.agg #[.slice ha hn hc, .slice Option.none 0 0]) from by kernel_rfl]
  try simp (disch := first | omega | assumption | rfl) only [↓reduceIte, go_sem, Nat.reduceLT, Nat.reduceEqDiff, Nat.reduceSub]
  have hB6 := new_block A (.cells #[.slice Option.none 0 0, .slice Option.none 0 0] 143 (0, 0))
  have hE6 := Ext.alloc A (.cells #[.slice Option.none 0 0, .slice Option.none 0 0] 143 (0, 0))
  have hs6 := new_size A (.cells #[.slice Option.none 0 0, .slice Option.none 0 0] 143 (0, 0))
  revert hB6 hE6 hs6
  generalize A.alloc (.cells #[.slice Option.none 0 0, .slice Option.none 0 0] 143 (0, 0)) = A0
  intro hB6 hE6 hs6
  refine sv_all (P := Tryz.prog) (t := 143) (l := [.slice ha hn hc, .slice Option.none 0 0]) hB6 rfl (fun v h => by simp at h; rcases h with rfl | rfl <;> rfl) rfl rfl ?_
  intro A1 hs7 hB7 hk7
  try simp (disch := first | omega | assumption | rfl) only [↓reduceIte, go_sem, Nat.reduceLT, Nat.reduceEqDiff, Nat.reduceSub]
  refine hK _ _ ?_; clear hK hgd; clear K; try clear gd
  rw [← hve] at hB7 ⊢
  have hEA1 : Ext A A1 := Keep.to_ext hE6 rfl (fun b hb => by omega) hk7
  obtain ⟨b6, hb6⟩ : ∃ b6, A.heap.size = b6 := ⟨_, rfl⟩
  rw [hb6] at hB7
  have hs1' : A1.heap.size = b6 + 1 := by omega
  have hone : one hv = true := by rw [hve]; rfl
  repeat refine c_r ?_
  refine rg0 ?_
  repeat refine c_r ?_
  rw [hb6]
  refine W_mono (Q := fun e σ' ds' Z => e = .exit 4 ∧ ds' = [] ∧ σ' 5 = vi i ∧ σ' 1 = .pointer (some ⟨w.heap.size, 0, Option.none⟩) ∧ σ' 2 = .pointer (some ⟨w.heap.size + 1, 0, Option.none⟩) ∧ σ' 3 = .pointer (some ⟨b3, 0, Option.none⟩) ∧ σ' 6 = .pointer (some ⟨b6, 0, Option.none⟩) ∧ Ext A Z ∧ A1.heap.size ≤ Z.heap.size ∧ ∃ (gw : Value) (G : List DX), Z.heap[b6]? = some (.cells [hv, gw].toArray 143 (0, 0)) ∧ DI A1.heap.size (fun b => b = b6 ∨ some b = gv.ownBlock ∨ (w.heap.size ≤ b ∧ b ≤ b3)) Z gw G ∧ G.map Prod.fst = g.2) ?_ ?_
  ·refine W_loop (fun m σ ds Z => ds = [] ∧ ∃ (j : Nat) (gw : Value) (G : List DX), j + m = g.2.length ∧ σ 7 = vi j ∧ σ 5 = vi i ∧ σ 1 = .pointer (some ⟨w.heap.size, 0, Option.none⟩) ∧ σ 2 = .pointer (some ⟨w.heap.size + 1, 0, Option.none⟩) ∧ σ 3 = .pointer (some ⟨b3, 0, Option.none⟩) ∧ σ 6 = .pointer (some ⟨b6, 0, Option.none⟩) ∧ Ext A Z ∧ A1.heap.size ≤ Z.heap.size ∧ Z.heap[b6]? = some (.cells [hv, gw].toArray 143 (0, 0)) ∧ DI A1.heap.size (fun b => b = b6 ∨ some b = gv.ownBlock ∨ (w.heap.size ≤ b ∧ b ≤ b3)) Z gw G ∧ G.map Prod.fst = g.2.take j) g.2.length ?_ ?_
   ·exact ⟨rfl, 0, .slice Option.none 0 0, [], by omega, vr0, (vq1 h5), (vq1 h1), (vq1 h2), (vq1 h3), vq0, hEA1, Nat.le_refl _, hB7, DI.nil, rfl⟩
   clear h5 h1 h2 h3
   rintro m2 σ2 ds2 Z ⟨rfl, j, gw, G, hjm, h7, h5, h1, h2, h3, h6, hEZ, hsZ, hbZ, hDI, hG⟩
   have q4Z := cellO_ext hEZ q4
   obtain ⟨_, g1Z⟩ := rg (hEA.trans hEZ)
   repeat refine c_r ?_
   refine rg9 h7 h1 h5 q4Z hi0 hi1 hyi g1Z Nat.zero_add ?_
   repeat refine c_r ?_
   refine wc0 ?_ ?_
   ·intro hlt2
    simp only [decide_eq_true_eq] at hlt2
    have hj : j < g.2.length := by omega
    have hj0 : (0 : Int) ≤ (j : Int) := by omega
    have hj1 : (j : Int) < (g.2.length : Int) := by omega
    have hj1' : (j : Int) + 1 = ((j + 1 : Nat) : Int) := by push_cast; rfl
    have hGl2 : G.length = j := by
     have := congrArg List.length hG
     simp at this; omega
    obtain ⟨cd, hcd, hDd⟩ := hgE j hj
    obtain ⟨d, hdd⟩ : ∃ d, g.2[j] = d := ⟨_, rfl⟩
    rw [hdd] at hDd
    have hdn := hgn d (hdd ▸ List.getElem_mem hj)
    obtain ⟨xD, rfl⟩ := Option.isSome_iff_exists.1 (cellsO_some hcd)
    obtain ⟨xi, hxi⟩ : ∃ xi, adr (some xD) (j * 5) = some xi := ⟨_, rfl⟩
    rw [hxi] at hcd
    have hxb : xi.block < w.heap.size := cells_lt hcd (by decide) rfl
    have hyb : yi.block < w.heap.size := cells_lt hcg (by decide) rfl
    have hwZ := hE1.trans (hEA.trans hEZ)
    have hcA := cellsO_ext hwZ hcd
    have hgw : cellO Z (some ⟨b6, 1, Option.none⟩) = some gw := sv_get hbZ rfl
    have s1 := hE1.size
    have sZ := hEZ.size
    repeat refine c_r ?_
    refine W_drw (fun i => i == 15) [(0, true), (1, true), (2, true), (3, true), (4, true), (5, true), (6, true), (7, true), (8, true), (9, true), (10, true), (11, false), (12, false), (13, false), (14, true), (15, false)] (above A1.heap.size) mixed (by kernel_rfl) ?_; intro gd K x hgd hx hxe hK; have hx0 := drewX hxe; clear hxe
    have hcx := cellsO_ext hx0 hcA
    have hdx := cellO_ext hx0 hgw
    have q4x := cellO_ext hx0 q4Z
    have g1x := cellO_ext hx0 g1Z
    have hxs := hx.size
    simp (disch := first | omega | assumption | rfl) only [↓reduceIte, go_sem, Nat.reduceLT, Nat.reduceEqDiff, Nat.reduceSub, h7, h5, h1, h6, q4x, g1x, hcx, hdx, hi0, hi1, hyi, hj0, hj1, hxi, Nat.zero_add]
    refine ⟨off_at (by omega), off_at (by omega), off_adr (by omega), off_of (by omega), ?_⟩
    refine Fn.mono (DOf_ok (hE0.trans (hwZ.trans hx0)) hDd hdn) ?_
    rintro _ A2 ⟨hA2, cs', nm', rfl, hX⟩
    refine ⟨.inr hA2.keep, ?_⟩
    have hA2s := hA2.size
    simp (disch := first | omega | assumption | rfl) only [↓reduceIte, go_sem, Nat.reduceLT, Nat.reduceEqDiff, Nat.reduceSub]
    refine bs_oneR (l := cs') (a := ((d, cs') : DX)) dx_shape rfl rfl rfl rfl ⟨rfl, hX.cells.1, hX.cells.2⟩ (by decide) ?_
    intro A3 hA3 hs8 ho3
    refine ⟨.inr hA3.keep, ?_⟩
    simp (disch := first | omega | assumption | rfl) only [↓reduceIte, go_sem, Nat.reduceLT, Nat.reduceEqDiff, Nat.reduceSub]
    have hx3 := (hx0.trans hA2).trans hA3
    refine op_appR dx_shape (hDI.own.ext hx3) ho3.rows rfl rfl rfl rfl rfl rfl (by decide) (vr0) (vr0) (by simp; omega) (by decide) (by omega) ?_
    intro v7 A4 ho7 hE7 hk8 hb7
    refine ⟨.inr (hk8.mono fun b _ hb => by have := (hDI.own.ge hb).1; show _ ≤ _; omega), ?_⟩
    have hk7s := hk8.size
    simp (disch := first | omega | assumption | rfl) only [↓reduceIte, go_sem, Nat.reduceLT, Nat.reduceEqDiff, Nat.reduceSub, h6]
    obtain ⟨a7, c7, hv7, _⟩ := ho7.rows.open
    have hb4 : A4.heap[b6]? = some (.cells [hv, gw].toArray 143 (0, 0)) := (hk8.block b6 (by omega) (fun h => by have := (hDI.own.ge h).1; omega)).trans (Ext.at hx3 hbZ)
    refine sv_at (P := Tryz.prog) (t := 36) (j := 1) (l := [hv, gw]) hb4 (by simp) (by rw [hv7]; rfl) rfl rfl ?_
    intro z hz' hbz hkz
    refine ⟨.inl rfl, ?_⟩
    simp (disch := first | omega | assumption | rfl) only [↓reduceIte, go_sem, Nat.reduceLT, Nat.reduceEqDiff, Nat.reduceSub]
    refine hK _ _ ?_; clear hK hgd; clear K; try clear gd
    have hgvlt : ∀ b, some b = gv.ownBlock → w3.heap.size ≤ b ∧ b < A.heap.size := fun b h => hGI.own.ge h
    have hbad : ∀ b, (b = b6 ∨ some b = gv.ownBlock ∨ (w.heap.size ≤ b ∧ b ≤ b3)) → w.heap.size ≤ b ∧ b < A1.heap.size := fun b hb => by
     rcases hb with hb | hb | hb
     ·omega
     ·have := hgvlt b hb; omega
     ·omega
    have hs : Fr A3 (fun b => some b = gw.ownBlock ∨ (b = b6 ∨ some b = gv.ownBlock ∨ (w.heap.size ≤ b ∧ b ≤ b3))) (fun x => DatAt x cs' d) := (hX.fr (hE0.trans ((hwZ.trans hx0).trans hA2)) (bad := fun b => some b = gw.ownBlock ∨ (b = b6 ∨ some b = gv.ownBlock ∨ (w.heap.size ≤ b ∧ b ≤ b3))) (fun b hb => by
     rcases hb with hb | hb
     ·have := (hDI.own.ge hb).2; omega
     ·have := hbad b hb; omega) (fun b hb => by
     rcases hb with hb | hb
     ·have := (hDI.own.ge hb).1; omega
     ·have := hbad b hb; omega)).ext hA3 (fun b h _ => h)
    have hnew := hDI.app (s := ((d, cs') : DX)) hx3 hs ho7 hk8 hb7 (hkz.mono (T := fun b => b = b6 ∨ some b = gv.ownBlock ∨ (w.heap.size ≤ b ∧ b ≤ b3)) (fun b _ h => .inl h)) (fun b hb => (hbad b hb).2)
    have hEz : Ext A z := Keep.to_ext (hE7 A (hEZ.trans hx3) (by omega)) rfl (fun b hb => by omega) hkz
    repeat refine c_r ?_
    refine rg2 h7 hj1' ?_
    repeat refine c_r ?_
    exact ⟨m2 - 1, by omega, rfl, j + 1, v7, _, by omega, vq0, (vq1 h5), (vq1 h1), (vq1 h2), (vq1 h3), (vq1 h6), hEz, by omega, hbz, hnew, by rw [List.map_append, hG, take_succ' hj, hdd]; rfl⟩
   ·intro hge
    simp only [decide_eq_false_iff_not] at hge
    have hj : j = g.2.length := by omega
    rw [hj, List.take_length] at hG
    repeat refine c_r ?_
    exact ⟨rfl, rfl, (vq1 h5), (vq1 h1), (vq1 h2), (vq1 h3), (vq1 h6), hEZ, hsZ, gw, G, hbZ, hDI, hG⟩
  clear h5 h1 h2 h3
  rintro _ σ3 _ Z ⟨rfl, rfl, h5, h1, h2, h3, h6, hEZ, hsZ, gw, G, hbZ, hDI, hG⟩
  have hgvlt : ∀ b, some b = gv.ownBlock → w3.heap.size ≤ b ∧ b < A.heap.size := fun b h => hGI.own.ge h
  have hrows := hDI.rows (fun b hb => by
   rcases hb with hb | hb | hb
   ·omega
   ·have := hgvlt b hb; omega
   ·omega)
  rw [hG] at hrows
  obtain ⟨ae, ce, hgw, _⟩ := hrows.self.open
  have hgv : cellO Z (some ⟨b3, 4, Option.none⟩) = some gv := sv_get (Ext.at hEZ hb) rfl
  have d6 := sv_cells (n := 2) hbZ rfl
  have s1 := hE1.size
  repeat refine c_r ?_
  refine rq ?_; intro gd K hgd hK
  try simp (disch := first | omega | assumption | rfl) only [↓reduceIte, go_sem, Nat.reduceLT, Nat.reduceEqDiff, Nat.reduceSub, h3, h6, hgv, d6, Nat.zero_add]
  refine bs_oneR (l := [hv, gw]) (a := ((g, (hv, gw)) : GlX)) gl_shape rfl rfl rfl rfl ⟨rfl, hone, by rw [hgw]; rfl⟩ (by decide) ?_
  intro Z3 hZ3 hs9 ho9
  try simp (disch := first | omega | assumption | rfl) only [↓reduceIte, go_sem, Nat.reduceLT, Nat.reduceEqDiff, Nat.reduceSub, h3, hgv, Nat.zero_add]
  have hGI3 := (hGI.ext hEZ).ext hZ3
  have hZs := hEZ.size
  have hZ3s := hZ3.size
  refine op_appR gl_shape hGI3.own ho9.rows rfl rfl rfl rfl rfl rfl (by decide) (vr0) (vr0) (by simp; omega) (by decide) (by omega) ?_
  intro v9 Z4 ho10 hE10 hk10 hb10
  try simp (disch := first | omega | assumption | rfl) only [↓reduceIte, go_sem, Nat.reduceLT, Nat.reduceEqDiff, Nat.reduceSub, h3, Nat.zero_add]
  have hk10s := hk10.size
  obtain ⟨a9, c9, hv9, _⟩ := ho10.rows.open
  have hb4 : Z4.heap[b3]? = some (.cells [vi r.kind, dv, .slice aN nN cN, .bool r.wild, gv].toArray 39 (0, 0)) := (hk10.block b3 (by omega) (fun h => by have := hgvlt _ h; omega)).trans (Ext.at (hEZ.trans hZ3) hb)
  refine sv_at (P := Tryz.prog) (t := 37) (j := 4) (l := [vi r.kind, dv, .slice aN nN cN, .bool r.wild, gv]) hb4 (by simp) (by rw [hv9]; rfl) rfl rfl ?_
  intro z hz' hbz hkz
  try simp (disch := first | omega | assumption | rfl) only [↓reduceIte, go_sem, Nat.reduceLT, Nat.reduceEqDiff, Nat.reduceSub]
  refine hK _ _ ?_; clear hK hgd; clear K; try clear gd
  have hsG : Fr Z3 (fun b => some b = gv.ownBlock ∨ (w.heap.size ≤ b ∧ b ≤ b3)) (GF ((g, (hv, gw)) : GlX)) := fun x hx => by
   have hEx : Ext w x := Keep.to_ext (hE1.trans ((hEA.trans hEZ).trans hZ3)) rfl (fun b hb => by
    rcases hb with hb | hb
    ·have := hgvlt b hb; omega
    ·omega) hx
   refine ⟨c1.ext (hE0.trans hEx), ?_⟩
   exact hrows x ((hZ3.mono fun _ _ h => h.elim).trans (hx.mono fun b _ h => .inr h))
  have hnew := hGI3.app (s := ((g, (hv, gw)) : GlX)) hsG ho10 hk10 hb10 (hkz.mono (T := fun b => w.heap.size ≤ b ∧ b ≤ b3) (fun b _ h => by omega)) (fun b hb => by omega)
  have hEz : Ext w1 z := Keep.to_ext (hE10 w1 ((hEA.trans hEZ).trans hZ3) (by omega)) rfl (fun b hb => by omega) hkz
  repeat refine c_r ?_
  refine rg2 h5 hi1' ?_
  repeat refine c_r ?_
  exact ⟨m - 1, by omega, rfl, i + 1, v9, _, by omega, vq0, (vq1 h1), (vq1 h2), (vq1 h3), hEz, by omega, hbz, hnew, by rw [List.map_append, hGG, take_succ' hi, hgg]; rfl⟩
 ·intro hge
  simp only [decide_eq_false_iff_not] at hge
  have hi : i = r.glue.length := by omega
  rw [hi, List.take_length] at hGG
  obtain ⟨ag, cg, hgv, _⟩ := hGI.own.rows.open
  have d5 := sv_cells (n := 5) hb rfl
  repeat refine c_r ?_
  refine rq ?_; intro gd K hgd hK
  try simp (disch := first | omega | assumption | rfl) only [↓reduceIte, go_sem, Nat.reduceLT, Nat.reduceEqDiff, Nat.reduceSub, h3, h2, d5]
  have hone : one dv = true := by rw [hdv]; rfl
  refine sv_all (P := Tryz.prog) (t := 39) (l := [vi r.kind, dv, .slice aN nN cN, .bool r.wild, gv]) (Ext.at hEA hC) rfl (fun v h => by
   simp at h
   rcases h with rfl | rfl | rfl | rfl | rfl
   ·rfl
   ·exact hone
   ·rfl
   ·rfl
   ·rw [hgv]; rfl) rfl rfl ?_
  intro z hz' hbz hkz
  try simp (disch := first | omega | assumption | rfl) only [↓reduceIte, go_sem, Nat.reduceLT, Nat.reduceEqDiff, Nat.reduceSub]
  refine hK _ _ ?_; clear hK hgd; clear K; try clear gd
  have s1 := hE1.size
  have hEz : Ext w z := Keep.to_ext (hE1.trans hEA) rfl (fun b hb => by omega) hkz
  repeat refine c_r ?_
  refine ret_any (.inr rfl) Tryz.ntmps24 rfl (res_agg (x := ⟨w.heap.size + 1, 0, Option.none⟩) (k := 5) ((vq1 h2)) rfl rfl (sv_cells hbz rfl) res_nil) ?_
  have hkz' : Keep (fun b => some b = gv.ownBlock ∨ (w.heap.size ≤ b ∧ b ≤ b3)) A z := hkz.mono (fun b _ h => .inr (by omega))
  refine ⟨hEz, _, rfl, ⟨dv, _, gv, by rw [hnv], hGI.dat z hkz', a2.ext hEz, ?_⟩⟩
  have hz2 := (hGI.own.keep hkz (fun b hb h => by have := (hGI.own.ge hb).1; omega)).rows.mapM (C' := GlC z z) Prod.fst (fun cs y hy hc => by
   obtain ⟨f1, f2⟩ := hGI.fr y hy z hkz'
   exact ⟨y.2.1, y.2.2, hc.1, f1, f2⟩)
  rw [hGG] at hz2
  exact hz2
end Go.Proofs.YtopbbjdembnfdaaGreat

namespace Go.Proofs.YtopbbjdembnfdaaGreat
open Go

def NumR (R : List RecL) : Prop := ∀ r ∈ R, ∀ n ∈ r.dat.nums, 0 ≤ n ∧ n ≤ 4294967295
theorem checkN_lb {n : Nm} (h : checkN n = 0) : LB n := fun l hl => by have := (checkN_labels h l hl).2; omega
theorem good_dat {R : List RecL} (h : GoodRs R) (hv : NumR R) : ∀ r ∈ R, DatOk r.dat := fun r hr => by
 have hf := (h.few r hr).2
 exact ⟨fun n hn => ⟨checkN_lb (h.names r hr n hn), by have := (hf.names n hn).2; omega⟩, by have := hf.nn; omega, by have := hf.nu; omega, by have := hf.nt; omega, hv r hr, by have := hf.nr; omega⟩
theorem good_ok {R : List RecL} (h : GoodRs R) (hv : NumR R) : ∀ r ∈ R, RecOk r := fun r hr =>
 ⟨checkN_lb (h.own r hr), by have := checkN_len (h.own r hr); omega, good_dat h hv r hr⟩
structure GoodC (R : List RecL) : Prop where
 ok : ∀ r ∈ R, RecOk r
 srt : SortR R
 gd : GoodR R
 ld : LeadR R
 len : R.length ≤ 60
 nn : ∀ r ∈ R, r.dat.names.length ≤ 1000000000
theorem good_canon {R : List RecL} (h : GoodRs R) (hv : NumR R) : GoodC (canonL R) := by
 refine ⟨canonL_all (fun a b h => ⟨h.lb, h.len, h.dat⟩) (good_ok h hv), canonL_sorted R, ?_, ?_, Nat.le_trans (canonL_len R) h.len, ?_⟩
 ·exact canonL_all (Q := fun r => ∀ n ∈ r.dat.names, NmG n) (fun a b h => h) (fun r hr n hn => checkN_g (h.names r hr n hn))
 ·refine canonL_all (Q := fun r => (r.dat.ty = 2 ∨ r.dat.ty = 5 ∨ r.dat.ty = 39) → r.dat.names ≠ []) (fun a b h => h) (fun r hr ht hn => ?_)
  have := h.lead r hr ht
  rw [hn] at this
  cases this
 ·exact canonL_all (Q := fun r => r.dat.names.length ≤ 1000000000) (fun a b h => h) (fun r hr => (h.few r hr).2.nn)
theorem good_zone {w0 w : World} {ov lv : Value} {o : Nm} {R : List RecL} (h : GoodC R) (hE : Ext w0 w) (ho : Row w ov (o.map vs)) (hl : Rows 7 (RecAt w0) w lv R) (hg : goodN o = true) : ZnAt w0 w ov lv o R :=
 ⟨hE, ho, hl, (goodN_g hg).m.s.lb, (goodN_g hg).m.s.len, h.ok, by have := h.len; omega⟩

structure ResF (P : DatL → Prop) (m : Nat) (r : ResL) : Prop where
 nm : NmS r.name
 dat : ∀ d ∈ r.data, P d
 dl : r.data.length ≤ m
 gl : r.glue.length ≤ m
 g : ∀ x ∈ r.glue, NmS x.1 ∧ (∀ d ∈ x.2, P d) ∧ x.2.length ≤ m + m
theorem resF_plain {P : DatL → Prop} {m : Nat} {k : Int} {ds : List DatL} {n : Nm} {b : Bool} (hn : NmS n) (hd : ∀ d ∈ ds, P d) (hl : ds.length ≤ m) : ResF P m ⟨k, ds, n, b, []⟩ :=
 ⟨hn, hd, hl, Nat.zero_le _, fun x h => by cases h⟩
theorem nil_s : NmS [] := ⟨fun l h => (by cases h), Nat.zero_le _⟩
section
variable {P : DatL → Prop} {R : List RecL} {o : Nm}
theorem datC_P (hP : ∀ r ∈ R, P r.dat) {n : Nm} {t : Int} : ∀ d ∈ datC R n t, P d := fun d hd => by
 obtain ⟨r, hr, rfl⟩ := datC_mem hd
 exact hP r hr
theorem refer_F (hP : ∀ r ∈ R, P r.dat) (hG : GoodR R) {n : Nm} (hn : NmS n) : ResF P R.length (referL R n) := by
 refine ⟨hn, datC_P hP, datC_len, ?_, fun x hx => ?_⟩
 ·exact Nat.le_trans (glueOf_len _ _) (Nat.le_trans (hostsG_len _ _) (Nat.le_trans (targets_len _ _) datC_len))
 ·obtain ⟨h, hh, he⟩ := List.mem_filterMap.1 hx
  split at he
  ·cases he
  ·cases he
   refine ⟨(targets_good hG (n := n) (t := 2) (fun d hd => hd) h (hostsG_mem _ _ h hh)).m.s, fun d hd => ?_, ?_⟩
   ·unfold glueL at hd
    rcases List.mem_append.1 hd with hd | hd
    ·exact datC_P hP d hd
    ·exact datC_P hP d hd
   ·have h1 := datC_len (R := R) (n := h) (t := 1)
    have h2 := datC_len (R := R) (n := h) (t := 28)
    show (glueL R h).length ≤ _
    unfold glueL
    rw [List.length_append]; omega
theorem take_P (hP : ∀ r ∈ R, P r.dat) {n : Nm} {t : Int} : (∀ d ∈ (datC R n t).take 1, P d) ∧ ((datC R n t).take 1).length ≤ R.length :=
 ⟨fun d hd => datC_P hP d (List.mem_of_mem_take hd), by have := datC_len (R := R) (n := n) (t := t); rw [List.length_take]; omega⟩
theorem renamed_F (hP : ∀ r ∈ R, P r.dat) (hG : GoodR R) {q n : Nm} (hq : NmM q) {r : ResL} (h : renamedL R q n = some r) : ResF P R.length r := by
 unfold renamedL at h
 split at h
 ·cases h
 ·split at h
  ·cases h
   have hm := swap_m hq (toN_m hG (n := n) (t := 39) (u := 39)) (f := n)
   exact resF_plain ⟨fun l hl => by have := hm.1 l hl; omega, by have := hm.2; omega⟩ (take_P hP).1 (take_P hP).2
  ·cases h
   exact resF_plain nil_s (fun d h => by cases h) (Nat.zero_le _)
theorem at_F (hP : ∀ r ∈ R, P r.dat) (hG : GoodR R) {n : Nm} {t : Int} {b : Bool} : ResF P R.length (atL R n t b) := by
 unfold atL
 split
 ·exact resF_plain nil_s (datC_P hP) datC_len
 ·split
  ·exact resF_plain (toN_m hG).s (take_P hP).1 (take_P hP).2
  ·exact resF_plain nil_s (fun d h => by cases h) (Nat.zero_le _)
theorem go_F (hP : ∀ r ∈ R, P r.dat) (hG : GoodR R) {q : Nm} (hq : NmM q) : ∀ {l : List Nm} {r : ResL}, (∀ n ∈ l, NmS n) → goL o R q l = some r → ResF P R.length r
 | [], r, _, h => by cases h
 | n :: l, r, hl, h => by
  simp only [goL] at h
  split at h
  ·cases h
   exact refer_F hP hG (hl n (List.mem_cons_self ..))
  ·split at h
   ·cases h
   ·split at h
    ·rename_i r' hr
     cases h
     exact renamed_F hP hG hq hr
    ·exact go_F hP hG hq (fun x hx => hl x (List.mem_cons_of_mem _ hx)) h
theorem look_F (hP : ∀ r ∈ R, P r.dat) (hG : GoodR R) {q : Nm} {t : Int} (hq : NmM q) : ResF P R.length (lookL o R q t) := by
 unfold lookL
 split
 ·exact resF_plain nil_s (fun d h => by cases h) (Nat.zero_le _)
 ·split
  ·rename_i r hr
   refine go_F hP hG hq (fun n hn => ?_) hr
   unfold downs at hn
   split at hn
   ·obtain ⟨i, _, rfl⟩ := downF_mem.1 hn
    exact (hq.drop i).s
   ·cases hn
  ·split
   ·exact at_F hP hG
   ·split
    ·exact at_F hP hG
    ·exact resF_plain nil_s (fun d h => by cases h) (Nat.zero_le _)
end
theorem look_ok {R : List RecL} (h : GoodC R) {o q : Nm} {t : Int} (hq : NmM q) : ResOk (lookL o R q t) := by
 have h1 := look_F (o := o) (P := DatOk) (fun r hr => (h.ok r hr).dat) h.gd (t := t) hq
 have hl := h.len
 exact ⟨h1.nm, h1.dat, by have := h1.dl; omega, by have := h1.gl; omega, fun x hx => by
  obtain ⟨a, b, c⟩ := h1.g x hx
  exact ⟨a, b, by omega⟩⟩
theorem look_nn {R : List RecL} (h : GoodC R) {o q : Nm} {t : Int} (hq : NmM q) : (∀ d ∈ (lookL o R q t).data, d.names.length ≤ 1000000000) ∧ ∀ g ∈ (lookL o R q t).glue, ∀ d ∈ g.2, d.names.length ≤ 1000000000 := by
 have h1 := look_F (o := o) (P := fun d => d.names.length ≤ 1000000000) h.nn h.gd (t := t) hq
 exact ⟨h1.dat, fun x hx => (h1.g x hx).2.1⟩

theorem cmpD_self (d : DatL) : cmpD d d = 0 := by
 have := cpr_D.neg d d
 omega
theorem sameRes_self (r : ResL) : sameRes r r = true := by
 have hD : ∀ d, sameD d d = true := fun d => by unfold sameD; rw [cmpD_self]; rfl
 have hGs : ∀ g, sameG g g = true := fun g => by unfold sameG; rw [eqAll_self hD]; simp
 unfold sameRes
 rw [eqAll_self hD, eqAll_self hGs]
 simp
theorem ResAt.base {w0 w : World} {cs : List Value} {r : ResL} (h : ResAt w0 w cs r) (hE : Ext w0 w) : ResAt w w cs r := by
 obtain ⟨dv, nv, gv, e, h1, h2, h3⟩ := h.ex
 refine ⟨dv, nv, gv, e, h1.to fun cs d hd => hd.ext hE, h2, h3.to fun cs x hx => ?_⟩
 obtain ⟨hv, dv, e, g1, g2⟩ := hx
 exact ⟨hv, dv, e, g1.ext hE, g2.to fun cs d hd => hd.ext hE⟩
end Go.Proofs.YtopbbjdembnfdaaGreat

namespace Go.Proofs.YtopbbjdembnfdaaGreat
open Go
set_option maxRecDepth 100000
section
variable {H : Type} {enc : TypeId × Value → H} {P : Program} {w : World} {base : Nat} {sp : Nat → Bool} {held : Bool}

theorem rd_ints {t e : TypeId} {k : IntKind} {v : Value} (h : Rd enc P w base sp held t v) (ht : P.underlying t = some (.slice e)) (hc : P.cellsOf e = 1) (he : P.underlying e = some (.int k)) : ∃ l : List Int, Row w v (l.map (.int k)) ∧ ∀ n ∈ l, (Lit.int k n).wf = true := by
 obtain ⟨vals, hr, hall, _⟩ := rd_slice h ht hc
 obtain ⟨m, rfl, hm⟩ := list_of (f := fun n => Value.int k n) (Q := fun n => (Lit.int k n).wf = true) (fun u hu => by
  obtain ⟨n, h1, h2⟩ := rd_int (hall u hu).c he
  exact ⟨n, by simpa using h1, h2⟩)
 exact ⟨m, hr, hm⟩

theorem wf_u32 {n : Int} (h : (Lit.int .u32 n).wf = true) : 0 ≤ n ∧ n ≤ 4294967295 := by
 simp [Lit.wf, IntKind.min, IntKind.max, IntKind.signed, IntKind.bits] at h
 omega
theorem wf_u8 {n : Int} (h : (Lit.int .u8 n).wf = true) : 0 ≤ n ∧ n ≤ 255 := by
 simp [Lit.wf, IntKind.min, IntKind.max, IntKind.signed, IntKind.bits] at h
 omega
theorem bytes_of {l : List Int} (h : ∀ n ∈ l, (Lit.int .u8 n).wf = true) : ∃ m : List UInt8, l.map (Value.int .u8) = m.map byteV := by
 induction l with
 | nil => exact ⟨[], rfl⟩
 | cons n l ih =>
  obtain ⟨m, hm⟩ := ih (fun x hx => h x (List.mem_cons_of_mem _ hx))
  have hb := wf_u8 (h n (List.mem_cons_self ..))
  obtain ⟨k, rfl⟩ : ∃ k : Nat, n = (k : Int) := ⟨n.toNat, by omega⟩
  exact ⟨UInt8.ofNat k :: m, by rw [List.map_cons, List.map_cons, hm, byteV_of (by omega)]⟩

theorem rd_data {cs : List Value} (h : RdC enc Tryz.prog w base sp held 59 cs) : ∃ d : DatL, DatAt w cs d ∧ ∀ n ∈ d.nums, 0 ≤ n ∧ n ≤ 4294967295 := by
 obtain ⟨hl, hf⟩ := rd_field h rfl
 have hl5 : cs.length = 5 := hl
 match cs, hl5 with
 | [c0, c1, c2, c3, c4], _ =>
  obtain ⟨ty, e0, _⟩ := rd_int (hf 0 _ rfl) rfl
  obtain ⟨names, n1, _⟩ := rd_names (P := Tryz.prog) (ts := 23) (tb := 9) (RdC.one (hf 1 _ rfl)) rfl rfl rfl rfl rfl rfl
  obtain ⟨nums, n2, n3⟩ := rd_ints (RdC.one (hf 2 _ rfl)) rfl rfl rfl
  obtain ⟨texts, n4, _⟩ := rd_name (P := Tryz.prog) (RdC.one (hf 3 _ rfl)) (e := 9) rfl rfl rfl rfl
  obtain ⟨raw, n5, n6⟩ := rd_ints (RdC.one (hf 4 _ rfl)) rfl rfl rfl
  obtain ⟨rb, hrb⟩ := bytes_of n6
  rw [hrb] at n5
  have e0' : c0 = vi ty := List.head_eq_of_cons_eq (show [c0] = [vi ty] from e0)
  exact ⟨⟨ty, names, nums, texts, rb⟩, ⟨c1, c2, c3, c4, by rw [e0'], n1, n2, n4, n5⟩, fun n hn => wf_u32 (n3 n hn)⟩
theorem rd_rec {cs : List Value} (h : RdC enc Tryz.prog w base sp held 110 cs) : ∃ r : RecL, RecAt w cs r ∧ ∀ n ∈ r.dat.nums, 0 ≤ n ∧ n ≤ 4294967295 := by
 obtain ⟨hl, hf⟩ := rd_field h rfl
 have hl7 : cs.length = 7 := hl
 match cs, hl7 with
 | [c0, c1, c2, c3, c4, c5, c6], _ =>
  obtain ⟨owner, n0, _⟩ := rd_name (P := Tryz.prog) (RdC.one (hf 0 _ rfl)) (e := 9) rfl rfl rfl rfl
  obtain ⟨ttl, e1, _⟩ := rd_int (hf 1 _ rfl) rfl
  obtain ⟨d, hd, hn⟩ := rd_data (hf 2 _ rfl)
  have e1' : c1 = v32 ttl := List.head_eq_of_cons_eq (show [c1] = [v32 ttl] from e1)
  have hd' : DatAt w [c2, c3, c4, c5, c6] d := hd
  exact ⟨⟨owner, ttl, d⟩, ⟨c0, [c2, c3, c4, c5, c6], by rw [e1'], n0, hd'⟩, hn⟩
theorem rd_recs {v : Value} (h : Rd enc Tryz.prog w base sp held 24 v) : ∃ R : List RecL, Rows 7 (RecAt w) w v R ∧ NumR R := by
 obtain ⟨L, hL, hall, _⟩ := rd_sliceC h (e := 110) (k := 7) rfl rfl
 have : ∀ L : List (List Value), (∀ cs ∈ L, RdC enc Tryz.prog w base sp held 110 cs) → ∃ R : List RecL, L.length = R.length ∧ (∀ i (h : i < L.length) (h' : i < R.length), RecAt w L[i] R[i]) ∧ NumR R := fun L => by
  induction L with
  | nil => intro _; exact ⟨[], rfl, fun i h => by simp at h, fun r h => by cases h⟩
  | cons cs L ih =>
   intro h
   obtain ⟨r, h1, h2⟩ := rd_rec (h cs (List.mem_cons_self ..))
   obtain ⟨R, a1, a2, a3⟩ := ih (fun x hx => h x (List.mem_cons_of_mem _ hx))
   refine ⟨r :: R, by simp [a1], fun i a b => ?_, fun x hx => ?_⟩
   ·cases i with
    | zero => exact h1
    | succ i => exact a2 i (by simpa using a) (by simpa using b)
   ·rcases List.mem_cons.1 hx with rfl | hx
    ·exact h2
    ·exact a3 x hx
 obtain ⟨R, a1, a2, a3⟩ := this L hall
 exact ⟨R, ⟨L, hL, a1, a2⟩, a3⟩
end
end Go.Proofs.YtopbbjdembnfdaaGreat

namespace Go.Proofs.YtopbbjdembnfdaaGreat
open Go
set_option maxRecDepth 100000

def kO : Nm := [[111]]
def kA : DatL := ⟨1, [], [], [], [1, 2, 3, 4]⟩
def kNs : Nm := [[110, 115], [115], [111]]
def kNsD : DatL := ⟨2, [kNs], [], [], []⟩
def kDn : DatL := ⟨39, [[[116]]], [], [], []⟩
def kCn : DatL := ⟨5, [[[99]]], [], [], []⟩
def kRs : List RecL := [⟨[[97], [111]], 0, kA⟩, ⟨[[115], [111]], 0, kNsD⟩, ⟨kNs, 0, kA⟩, ⟨[[100], [111]], 0, kDn⟩, ⟨[[42], [119], [111]], 0, kCn⟩]
def kL (q : Nm) : ResL := lookL kO (canonL kRs) q 1
theorem k_a : kL [[65], [111]] = ⟨1, [kA], [], false, []⟩ := by kernel_rfl
theorem k_s : kL [[113], [115], [111]] = ⟨4, [kNsD], [[115], [111]], false, [(kNs, [kA])]⟩ := by kernel_rfl
theorem k_d : kL [[112], [100], [111]] = ⟨5, [kDn], [[112], [116]], false, []⟩ := by kernel_rfl
theorem k_w : kL [[112], [119], [111]] = ⟨5, [kCn], [[99]], true, []⟩ := by kernel_rfl
theorem k_v : kL [[118], [111]] = ⟨3, [], [], false, []⟩ := by kernel_rfl
theorem k_e : kL [[119], [111]] = ⟨2, [], [], false, []⟩ := by kernel_rfl
theorem k_p : kL [[112]] = ⟨7, [], [], false, []⟩ := by kernel_rfl
theorem k_rs : GoodRs kRs := by
 refine ⟨by decide, ?_, ?_, ?_, ?_⟩
 all_goals
  intro r hr
  simp only [kRs, List.mem_cons, List.not_mem_nil, or_false] at hr
 ·rcases hr with rfl | rfl | rfl | rfl | rfl
  all_goals
   refine ⟨by kernel_rfl, ⟨?_, by decide, by decide, by decide, ?_, by decide⟩⟩
   ·intro n hn
    simp only [kA, kNsD, kDn, kCn, List.mem_cons, List.not_mem_nil, or_false] at hn
    try subst hn
    try decide
   ·intro l hl; cases hl
 ·rcases hr with rfl | rfl | rfl | rfl | rfl <;> kernel_rfl
 ·rcases hr with rfl | rfl | rfl | rfl | rfl
  all_goals
   intro n hn
   simp only [kA, kNsD, kDn, kCn, List.mem_cons, List.not_mem_nil, or_false] at hn
   try subst hn
   try kernel_rfl
 ·rcases hr with rfl | rfl | rfl | rfl | rfl
  all_goals
   intro ht
   first | rfl | (simp [leadT, kA] at ht)
theorem k_num : NumR kRs := by
 intro r hr
 simp only [kRs, List.mem_cons, List.not_mem_nil, or_false] at hr
 rcases hr with rfl | rfl | rfl | rfl | rfl <;> (intro n hn; cases hn)
theorem k_good : GoodC (canonL kRs) := good_canon k_rs k_num
end Go.Proofs.YtopbbjdembnfdaaGreat

namespace Go.Proofs.YtopbbjdembnfdaaGreat
open Go
set_option maxRecDepth 10000

def KnownOk : Prop := ∀ w : World, Fn Tryz.prog 15 #[] w (fun v w' => v = .bool true ∧ Ext w w')

end Go.Proofs.YtopbbjdembnfdaaGreat

namespace Go.Proofs.YtopbbjdembnfdaaGreat
open Go
section
variable {P : Program} {x : World} {e : TypeId} {K : Value → World → Prop}
theorem sv_new {t : TypeId} {cur : Array Value} {l : List Value} (hl : l.length = cur.size) (h1 : ∀ v ∈ l, one v = true) (hs : tyS P t = l.length) (hi : (P.info? t).isSome = true)
  (hK : ∀ w', Ext x w' → w'.heap.size = x.heap.size + 1 → w'.heap[x.heap.size]? = some (.cells l.toArray e (0, 0)) → K undef w') : stK P t (.pointer (some ⟨x.heap.size, 0, Option.none⟩)) (.agg l.toArray) (x.alloc (.cells cur e (0, 0))) K := by
 have hB3 := new_block x (.cells cur e (0, 0))
 have hE4 := Ext.alloc x (.cells cur e (0, 0))
 have hs4 := new_size x (.cells cur e (0, 0))
 refine sv_all (P := P) (t := t) (l := l) hB3 hl h1 hs hi ?_
 intro w5 hs5 hB5 hk5
 exact hK w5 (Keep.to_ext hE4 rfl (fun b hb => by omega) hk5) (by omega) hB5
theorem Row.isOne {w : World} {v : Value} {l : List Value} (h : Row w v l) : one v = true := by
 obtain ⟨a, c, rfl, _⟩ := h; rfl
theorem Rows.isOne {α : Type} {k : Nat} {C : List Value → α → Prop} {w : World} {v : Value} {l : List α} (h : Rows k C w v l) : one v = true := by
 obtain ⟨a, c, rfl, _⟩ := h.open; rfl
theorem two_one {a b : Value} (ha : one a = true) (hb : one b = true) : ∀ v ∈ [a, b], one v = true := fun v h => by
 simp at h
 rcases h with rfl | rfl <;> assumption
end
end Go.Proofs.YtopbbjdembnfdaaGreat

namespace Go.Proofs.YtopbbjdembnfdaaGreat
open Go
set_option maxRecDepth 10000

set_option maxHeartbeats 2000000 in
theorem LookTwo_ok (hkn : KnownOk) (W : World) {ov lv qv pv : Value} {o q p : Nm} {R : List RecL} {t : Int} (ho : Row W ov (o.map vs)) (hl : Rows 7 (RecAt W) W lv R) (hv : NumR R) (hq : Row W qv (q.map vs)) (hp : Row W pv (p.map vs)) :
  Fn Tryz.prog 4 #[ov, lv, qv, pv, vi t] W (fun v w' => v = .bool true ∧ Ext W w') := by
 refine enter Tryz.func4 Tryz.ntmps4 rfl rfl ?_
 repeat refine c_r ?_
 refine rg0 ?_
 repeat refine c_r ?_
 refine rq ?_; intro gd K hgd hK
 try simp (disch := first | omega | assumption | rfl) only [↓reduceIte, go_sem, Nat.reduceLT, Nat.reduceEqDiff, Nat.reduceSub]
 refine Fn.mono (hkn W) ?_
 rintro _ w1 ⟨rfl, hE1⟩
 try simp (disch := first | omega | assumption | rfl) only [↓reduceIte, go_sem, Nat.reduceLT, Nat.reduceEqDiff, Nat.reduceSub]
 refine hK _ _ ?_; clear hK hgd; clear K; try clear gd
 repeat refine c_r ?_
 refine W_cond (t := false) (vr0) (fun h => by cases h) ?_
 intro _
 repeat refine c_r ?_
 refine W_mono (Q := fun e σ' ds' v' => e = .normal ∧ ds' = [] ∧ σ' 0 = ov ∧ σ' 1 = lv ∧ σ' 2 = qv ∧ σ' 3 = pv ∧ σ' 4 = vi t ∧ Ext W v' ∧ ∃ bb, σ' 29 = .bool bb ∧ (bb = false → goodN o = true ∧ GoodRs R ∧ goodN q = true ∧ goodN p = true)) ?_ ?_
 ·refine rq ?_; intro gd K hgd hK
  have hg4 : ∀ n σ b, wantV gd n σ (some (4, b)) = boolIs (ev n σ (.tmp 20)) b := (fun n σ b => by rw [wantV_some, show gd 4 = some 20 from (by rw [hgd]; rfl)]; rfl); have hg9 : ∀ n σ b, wantV gd n σ (some (9, b)) = boolIs (ev n σ (.tmp 25)) b := (fun n σ b => by rw [wantV_some, show gd 9 = some 25 from (by rw [hgd]; rfl)]; rfl)
  try simp (disch := first | omega | assumption | rfl) only [↓reduceIte, go_sem, Nat.reduceLT, Nat.reduceEqDiff, Nat.reduceSub]
  refine Fn.mono (ZGood_ok hE1 (ho.ext hE1) (hl.ext hE1)) ?_
  rintro _ w2 ⟨hE2, b, rfl, hb⟩
  cases b with
  | false =>
   try simp (disch := first | omega | assumption | rfl) only [↓reduceIte, go_sem, Nat.reduceLT, Nat.reduceEqDiff, Nat.reduceSub, Bool.not_false, ↓hg4, ↓hg9]
   refine hK _ _ ?_; clear hK hgd; clear K; try clear gd
   exact ⟨rfl, rfl, vq0, vq0, vq0, vq0, vq0, hE1.trans hE2, _, vr0, fun h => by cases h⟩
  | true =>
   try simp (disch := first | omega | assumption | rfl) only [↓reduceIte, go_sem, Nat.reduceLT, Nat.reduceEqDiff, Nat.reduceSub, Bool.not_true, ↓hg4, ↓hg9]
   refine Fn.mono (NGood_ok w2 qv q (hq.ext (hE1.trans hE2))) ?_
   rintro _ w3 ⟨rfl, hE3⟩
   cases hgq : goodN q with
   | false =>
    try simp (disch := first | omega | assumption | rfl) only [↓reduceIte, go_sem, Nat.reduceLT, Nat.reduceEqDiff, Nat.reduceSub, Bool.not_false, ↓hg4, ↓hg9]
    refine hK _ _ ?_; clear hK hgd; clear K; try clear gd
    exact ⟨rfl, rfl, vq0, vq0, vq0, vq0, vq0, (hE1.trans hE2).trans hE3, _, vr0, fun h => by cases h⟩
   | true =>
    try simp (disch := first | omega | assumption | rfl) only [↓reduceIte, go_sem, Nat.reduceLT, Nat.reduceEqDiff, Nat.reduceSub, Bool.not_true, ↓hg4, ↓hg9]
    refine Fn.mono (NGood_ok w3 pv p (hp.ext ((hE1.trans hE2).trans hE3))) ?_
    rintro _ w4 ⟨rfl, hE4⟩
    try simp (disch := first | omega | assumption | rfl) only [↓reduceIte, go_sem, Nat.reduceLT, Nat.reduceEqDiff, Nat.reduceSub, ↓hg4, ↓hg9]
    refine hK _ _ ?_; clear hK hgd; clear K; try clear gd
    exact ⟨rfl, rfl, vq0, vq0, vq0, vq0, vq0, ((hE1.trans hE2).trans hE3).trans hE4, _, vr0, fun h => ⟨(hb rfl).1, (hb rfl).2, hgq, by simpa using h⟩⟩
 clear hE1 w1
 rintro _ σ1 _ w1 ⟨rfl, rfl, h0, h1, h2, h3, h4, hE1, bb, h29, hbb⟩
 repeat refine c_r ?_
 refine W_cond (t := bb) ((vq1 h29)) ?_ ?_
 ·intro _
  repeat (first | refine c_r ?_ | refine rg0 ?_)
  refine rt0 Tryz.ntmps4 ?_
  exact ⟨rfl, hE1⟩
 intro hb
 obtain ⟨go, gR, gq, gp⟩ := hbb hb
 have hC := good_canon gR hv
 have hrok := good_ok gR hv
 have hRl := gR.len
 have mq : NmM q := (goodN_g gq).m
 have mp : NmM p := (goodN_g gp).m
 have ka : ResOk (lookL o (canonL R) q t) := look_ok hC mq
 have na := look_nn hC (o := o) (t := t) mq
 have kb : ResOk (lookL o (canonL R) p t) := look_ok hC mp
 have nb := look_nn hC (o := o) (t := t) mp
 repeat refine c_r ?_
 refine rq ?_; intro gd K hgd hK
 try simp (disch := first | omega | assumption | rfl) only [↓reduceIte, go_sem, Nat.reduceLT, Nat.reduceEqDiff, Nat.reduceSub, h0, h1]
 refine Fn.mono (ZNew_ok hE1 (ho.ext hE1) (hl.ext hE1) hrok (by omega)) ?_
 rintro _ w2 ⟨hE2, cv, rfl, hcv⟩
 have hE12 := hE1.trans hE2
 try simp (disch := first | omega | assumption | rfl) only [↓reduceIte, go_sem, Nat.reduceLT, Nat.reduceEqDiff, Nat.reduceSub]
 refine sv_new (P := Tryz.prog) (l := [ov, cv]) rfl (two_one ho.isOne hcv.isOne) rfl rfl ?_
 intro w3 hE3 hs3 hB3
 try simp (disch := first | omega | assumption | rfl) only [↓reduceIte, go_sem, Nat.reduceLT, Nat.reduceEqDiff, Nat.reduceSub]
 refine hK _ _ ?_; clear hK hgd; clear K; try clear gd
 have hE13 := hE12.trans hE3
 have d3 := sv_cells (n := 2) hB3 rfl
 have hcv3 := hcv.ext hE3
 repeat refine c_r ?_
 refine rq ?_; intro gd K hgd hK
 try simp (disch := first | omega | assumption | rfl) only [↓reduceIte, go_sem, Nat.reduceLT, Nat.reduceEqDiff, Nat.reduceSub, h2, h4, d3]
 refine Fn.mono (Zone_ok (good_zone hC hE13 (ho.ext hE13) hcv3 go) hC.gd (hq.ext hE13) mq) ?_
 rintro _ w4 ⟨hE4, cs, rfl, hres⟩
 have hE14 := hE13.trans hE4
 have hra := hres.at hE14
 try simp (disch := first | omega | assumption | rfl) only [↓reduceIte, go_sem, Nat.reduceLT, Nat.reduceEqDiff, Nat.reduceSub]
 refine sv_new (P := Tryz.prog) (l := cs) (by rw [hres.cells.1]; rfl) hres.cells.2 (by rw [hres.cells.1]; rfl) rfl ?_
 intro w5 hE5 hs5 hB5
 try simp (disch := first | omega | assumption | rfl) only [↓reduceIte, go_sem, Nat.reduceLT, Nat.reduceEqDiff, Nat.reduceSub]
 refine hK _ _ ?_; clear hK hgd; clear K; try clear gd
 have hE35 := hE4.trans hE5
 have hE15 := hE13.trans hE35
 have hra5 := hra.ext hE5
 have d5 := sv_cells (n := 5) hB5 hres.cells.1.symm
 have d3' := cellsO_ext hE35 d3
 repeat refine c_r ?_
 refine rq ?_; intro gd K hgd hK
 try simp (disch := first | omega | assumption | rfl) only [↓reduceIte, go_sem, Nat.reduceLT, Nat.reduceEqDiff, Nat.reduceSub, h3, h4, d3']
 refine Fn.mono (Zone_ok (good_zone hC hE15 (ho.ext hE15) (hcv3.ext hE35) go) hC.gd (hp.ext hE15) mp) ?_
 rintro _ w6 ⟨hE6, cs2, rfl, hres2⟩
 have hE16 := hE15.trans hE6
 have hrb := hres2.at hE16
 try simp (disch := first | omega | assumption | rfl) only [↓reduceIte, go_sem, Nat.reduceLT, Nat.reduceEqDiff, Nat.reduceSub]
 refine sv_new (P := Tryz.prog) (l := cs2) (by rw [hres2.cells.1]; rfl) hres2.cells.2 (by rw [hres2.cells.1]; rfl) rfl ?_
 intro w7 hE7 hs7 hB7
 try simp (disch := first | omega | assumption | rfl) only [↓reduceIte, go_sem, Nat.reduceLT, Nat.reduceEqDiff, Nat.reduceSub]
 refine hK _ _ ?_; clear hK hgd; clear K; try clear gd
 have hE57 := hE6.trans hE7
 have hE17 := hE15.trans hE57
 have hra7 := hra5.ext hE57
 have hrb7 := hrb.ext hE7
 have d5' := cellsO_ext hE57 d5
 have d7 := sv_cells (n := 5) hB7 hres2.cells.1.symm
 repeat refine c_r ?_
 refine W_drw (fun _ => false) [(0, true), (1, true), (3, true), (5, true), (2, false), (4, false), (6, false), (7, false), (8, true), (9, true)] NoS mixed (by kernel_rfl) ?_; intro gd K x hgd hx hxe hK; clear hxe
 have d5x := cellsO_ext hx d5'
 have d7x := cellsO_ext hx d7
 have hxW := hE17.trans hx
 simp (disch := first | omega | assumption | rfl) only [↓reduceIte, go_sem, Nat.reduceLT, Nat.reduceEqDiff, Nat.reduceSub, d5x, d7x]
 refine Fn.mono (LkSame_ok hxW (hra7.ext hx) (hrb7.ext hx) ka kb) ?_
 rintro _ y1 ⟨rfl, hy1⟩
 refine ⟨.inr hy1, ?_⟩
 have d5y := cellsO_ext hy1 d5x
 have hy01 := hxW.trans hy1
 simp (disch := first | omega | assumption | rfl) only [↓reduceIte, go_sem, Nat.reduceLT, Nat.reduceEqDiff, Nat.reduceSub, d5y]
 refine Fn.mono (ResOf_ok hy01 ((hra7.ext hx).ext hy1) ka na) ?_
 rintro _ y2 ⟨hy2, ca, rfl, hr2⟩
 refine ⟨.inr hy2, ?_⟩
 have d7z := cellsO_ext (hy1.trans hy2) d7x
 have hy02 := hy01.trans hy2
 simp (disch := first | omega | assumption | rfl) only [↓reduceIte, go_sem, Nat.reduceLT, Nat.reduceEqDiff, Nat.reduceSub, d7z]
 refine Fn.mono (ResOf_ok hy02 (((hrb7.ext hx).ext hy1).ext hy2) kb nb) ?_
 rintro _ y3 ⟨hy3, cb, rfl, hr3⟩
 refine ⟨.inr hy3, ?_⟩
 have hy03 := hy02.trans hy3
 simp (disch := first | omega | assumption | rfl) only [↓reduceIte, go_sem, Nat.reduceLT, Nat.reduceEqDiff, Nat.reduceSub]
 refine Fn.mono (RSameResult_ok (Keep.refl _ y3) ((hr2.ext hy3).base hy3) hr3 ka kb) ?_
 rintro _ y4 ⟨rfl, hy4⟩
 refine ⟨.inr hy4, ?_⟩
 simp (disch := first | omega | assumption | rfl) only [↓reduceIte, go_sem, Nat.reduceLT, Nat.reduceEqDiff, Nat.reduceSub]
 refine hK _ _ ?_; clear hK hgd; clear K; try clear gd
 repeat refine c_r ?_
 refine rt0 Tryz.ntmps4 ?_
 exact ⟨by simp, hy03.trans hy4⟩
end Go.Proofs.YtopbbjdembnfdaaGreat
