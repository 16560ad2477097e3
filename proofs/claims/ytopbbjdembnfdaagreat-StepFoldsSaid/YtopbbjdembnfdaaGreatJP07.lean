/-
  Texts of a proof, joined: E4, M5cs, E5, E6, E7, B4, B5, B6, M5cm, E8, K23.
  Conditions: none.
-/
import Derived.Test.YtopbbjdembnfdaaGreatJP06
import Derived.Test.YtopbbjdembnfdaaGreatJP01
import Derived.Test.YtopbbjdembnfdaaGreatJP03
import Derived.Lib.Builder
import Derived.Lib.AppendStr
import Derived.Lib.UnsafeStr
set_option linter.unusedVariables false
set_option linter.unusedSimpArgs false
set_option linter.defProp false
set_option linter.unnecessarySimpa false
namespace Go.Proofs.YtopbbjdembnfdaaGreat
open Go
set_option maxRecDepth 10000
def encD (W0 : World) (x : Nm) (_ : World) (args : Array Value) : Prop := ∃ v, args = #[v] ∧ Row W0 v (x.map vs)
theorem downIt {wb W0 : World} {C : Nat → Prop} {bn bz : Nat} {nv ov lv : Value} {o n : Nm} (hbn : W0.heap[bn]? = some (.cells #[nv] 23 (0, 0))) (hbz : W0.heap[bz]? = some (.cells #[ov, lv] 34 (0, 0))) (hn : Row wb nv (n.map vs)) (ho : Row W0 ov (o.map vs)) (hC1 : ¬ C bn) (hC2 : ¬ C bz)
  (hol : o.length ≤ 1000000000000) (hnl : n.length ≤ 1000000000000) :
  Iter Tryz.prog 125 #[.pointer (some ⟨bn, 0, Option.none⟩), .pointer (some ⟨bz, 0, Option.none⟩)] W0 W0.heap.size C (downs o n) (encD wb) := by
 intro lp J Jx W hW hnW hJ hJx hY h0
 obtain ⟨an, cn, rfl, hcn, hgn⟩ := hn
 obtain ⟨ao, co, rfl, hco, hgo⟩ := ho
 simp only [List.length_map] at hcn hgn hco hgo hbn hbz
 have hln := (Array.getElem?_eq_some_iff.1 hbn).1
 have hlz := (Array.getElem?_eq_some_iff.1 hbz).1
 have p0 : cellO W (some ⟨bn, 0, Option.none⟩) = some (.slice an n.length cn) := cellO_ext hW (cellO_at hbn rfl)
 have q0 : cellO W (some ⟨bz, 0, Option.none⟩) = some (.slice ao o.length co) := cellO_ext hW (cellO_at hbz rfl)
 refine enter Tryz.func125 Tryz.ntmps125 rfl rfl ?_
 repeat refine c_r ?_
 refine rg3 p0 q0 Nat.add_zero ?_
 repeat refine c_r ?_
 refine W_loop (fun m σ ds v => ds = [] ∧ ∃ (pre rest : List Nm) (i : Int), downs o n = pre ++ rest ∧ i + 1 ≤ (m : Int) ∧ σ 4 = vi i ∧ ((i < 0 ∧ rest = []) ∨ ∃ k : Nat, i = k ∧ k ≤ n.length ∧ rest = downF n k) ∧ σ 0 = .func (.yield lp) #[] #[] ∧ σ 1 = .pointer (some ⟨bn, 0, Option.none⟩) ∧ σ 2 = .pointer (some ⟨bz, 0, Option.none⟩) ∧ J pre v ∧ KeepB W0.heap.size C W v) (n.length + 1) ?_ ?_
 ·refine ⟨rfl, [], downs o n, (n.length : Int) - o.length, rfl, by omega, vq0, ?_, vq0, vq0, vq0, h0, KeepB.refl _ _ _⟩
  unfold downs
  by_cases hle : o.length ≤ n.length
  ·rw [if_pos hle]; exact .inr ⟨n.length - o.length, by omega, by omega, rfl⟩
  ·rw [if_neg hle]; exact .inl ⟨by omega, rfl⟩
 rintro m σ ds v ⟨rfl, pre, rest, i, hd, him, h4, hir, hs0, hs1, hs2, hj, hKB⟩
 have p1 : cellO v (some ⟨bn, 0, Option.none⟩) = some (.slice an n.length cn) := cell_keepB hKB hln hC1 p0
 repeat refine c_r ?_
 refine rg1 h4 ?_
 repeat refine c_r ?_
 refine wc0 ?_ ?_
 ·intro hge
  simp only [decide_eq_true_eq, ge_iff_le] at hge
  rcases hir with ⟨h, _⟩ | ⟨k, rfl, hkn, hrest⟩
  ·omega
  have hk1 : (k : Int) ≤ (n.length : Int) := by omega
  obtain ⟨suf, hsuf⟩ : ∃ suf, rest = n.drop k :: suf ∧ ((k = 0 ∧ suf = []) ∨ ∃ j, k = j + 1 ∧ suf = downF n j) := by
   cases k with
   | zero => exact ⟨[], by rw [hrest]; rfl, .inl ⟨rfl, rfl⟩⟩
   | succ j => exact ⟨downF n j, by rw [hrest]; rfl, .inr ⟨j, rfl, rfl⟩⟩
  have hrow : Row wb (.slice (if cn = k then an else adr an k) (n.length - k) (cn - k)) ((n.drop k).map vs) := by
   have := Row.tail (l := n.map vs) (by simp) hcn (by simpa using hgn) (lo := k) (by simpa using hkn)
   rw [← List.map_drop] at this
   simpa using this
  have hxs : downs o n = pre ++ n.drop k :: suf := by rw [hd, hsuf.1]
  repeat refine c_r ?_
  refine rq ?_; intro gd K hgd hK
  try simp (disch := first | omega | assumption | rfl) only [↓reduceIte, go_sem, Nat.reduceLT, Nat.reduceEqDiff, Nat.reduceSub, h4, hs0, hs1, p1, hge, hk1]
  refine Yld.mono (hY pre (n.drop k) suf v _ hxs hj hKB ⟨_, rfl, hrow⟩) ?_
  rintro u x (⟨rfl, hj', hk'⟩ | ⟨rfl, hjx⟩)
  ·try simp (disch := first | omega | assumption | rfl) only [↓reduceIte, go_sem, Nat.reduceLT, Nat.reduceEqDiff, Nat.reduceSub]
   refine hK _ _ ?_; clear hK hgd; clear K; try clear gd
   repeat refine c_r ?_
   refine wc0 ?_ ?_
   ·intro h; simp at h
   ·intro _
    repeat refine c_r ?_
    refine rg1 h4 ?_
    refine thenQ_normal ?_
    refine ⟨m - 1, by omega, rfl, pre ++ [n.drop k], suf, (k : Int) - 1, by rw [hxs]; simp, by omega, vq0, ?_, (vq1 hs0), (vq1 hs1), (vq1 hs2), hj', hKB.trans hk'⟩
    rcases hsuf.2 with ⟨h1, h2⟩ | ⟨j, h1, h2⟩
    ·exact .inl ⟨by omega, h2⟩
    ·exact .inr ⟨j, by omega, by omega, h2⟩
  ·try simp (disch := first | omega | assumption | rfl) only [↓reduceIte, go_sem, Nat.reduceLT, Nat.reduceEqDiff, Nat.reduceSub]
   refine hK _ _ ?_; clear hK hgd; clear K; try clear gd
   repeat refine c_r ?_
   refine wc0 ?_ ?_
   ·intro _
    repeat refine c_r ?_
    refine ret_none (by simp) rfl (.inr ⟨_, _, _, hxs, hjx⟩)
   ·intro h; simp at h
 ·intro hge
  simp only [decide_eq_false_iff_not, ge_iff_le] at hge
  repeat refine c_r ?_
  refine ret_none (by simp) rfl (.inl ?_)
  rcases hir with ⟨_, h⟩ | ⟨k, rfl, _⟩
  ·rw [hd, h, List.append_nil]; exact hj
  ·omega
theorem Down_ok {w : World} {nv ov lv : Value} (hn : ∃ a n c, nv = .slice a n c) :
  Fn Tryz.prog 59 #[.agg #[ov, lv], nv] w (fun v w' => v = .func (.func 125) #[] #[.pointer (some ⟨w.heap.size + 1, 0, Option.none⟩), .pointer (some ⟨w.heap.size, 0, Option.none⟩)] ∧ Ext w w' ∧ w'.heap.size = w.heap.size + 2 ∧
   w'.heap[w.heap.size]? = some (.cells #[ov, lv] 34 (0, 0)) ∧ w'.heap[w.heap.size + 1]? = some (.cells #[nv] 23 (0, 0))) := by
 obtain ⟨an, nn, cn, rfl⟩ := hn
 refine enter Tryz.func59 Tryz.ntmps59 rfl rfl ?_
 repeat refine c_r ?_
 refine rg0 ?_
 repeat refine c_r ?_
 rw [new_size]
 refine W_alloc2 ?_
 intro w1 hE1 hs1 hA hB
 refine rg0 ?_
 repeat refine c_r ?_
 refine rt0 Tryz.ntmps59 ?_
 exact ⟨rfl, hE1, hs1, hA, hB⟩
theorem tell_Exists {w0 w : World} {bn : Nat} {nv : Value} {n : Nm} {R : List RecL} (hE0 : Ext w0 w) (hn : w.heap[bn]? = some (.cells #[nv] 23 (0, 0))) (hrn : Row w nv (n.map vs)) (hok : NmS n) (hoks : ∀ r ∈ R, RecOk r) :
  Tell w0 w 132 [.pointer (some ⟨bn, 0, Option.none⟩)] (fun r => under r.owner n) R := by
 refine ⟨rfl, fun A cs r hE hr hcs => ?_⟩
 obtain ⟨ow, ds, rfl, a1, a2⟩ := hcs.ex
 obtain ⟨nm, nu, tx, rw', rfl, _⟩ := a2.ex
 refine enter Tryz.func132 Tryz.ntmps132 rfl rfl ?_
 repeat refine c_r ?_
 refine rg0 ?_
 repeat refine c_r ?_
 refine W_alloc1 ?_
 intro A1 hE1 hs1 hA
 have p0 : cellO A1 (some ⟨A.heap.size, 0, Option.none⟩) = some ow := cellO_at hA rfl
 have q1 : cellO A1 (some ⟨bn, 0, Option.none⟩) = some nv := cellO_ext (hE.trans hE1) (cellO_at hn rfl)
 refine rq ?_; intro gd K hgd hK
 try simp (disch := first | omega | assumption | rfl) only [↓reduceIte, go_sem, Nat.reduceLT, Nat.reduceEqDiff, Nat.reduceSub, p0, q1, Nat.add_zero]
 refine Fn.mono (Under_ok _ _ _ _ _ (a1.ext (hE0.trans (hE.trans hE1))) (hrn.ext (hE.trans hE1)) (hoks r hr).lb hok.lb (by have := (hoks r hr).len; omega) (by have := hok.len; omega)) ?_
 rintro _ A2 ⟨rfl, hE2⟩
 try simp (disch := first | omega | assumption | rfl) only [↓reduceIte, go_sem, Nat.reduceLT, Nat.reduceEqDiff, Nat.reduceSub]
 refine hK _ _ ?_; clear hK hgd; clear K; try clear gd
 repeat refine c_r ?_
 refine rt0 Tryz.ntmps132 ?_
 exact ⟨rfl, hE1.trans hE2⟩
theorem tell_Source {w0 w : World} {bn : Nat} {nv : Value} {n : Nm} {R : List RecL} (hE0 : Ext w0 w) (hn : w.heap[bn]? = some (.cells #[nv] 23 (0, 0))) (hrn : Row w nv (n.map vs)) (hok : NmS n) (hoks : ∀ r ∈ R, RecOk r) :
  Tell w0 w 135 [.pointer (some ⟨bn, 0, Option.none⟩)] (fun r => decide (foldN r.owner = foldN n)) R := by
 refine ⟨rfl, fun A cs r hE hr hcs => ?_⟩
 obtain ⟨ow, ds, rfl, a1, a2⟩ := hcs.ex
 obtain ⟨nm, nu, tx, rw', rfl, _⟩ := a2.ex
 refine enter Tryz.func135 Tryz.ntmps135 rfl rfl ?_
 repeat refine c_r ?_
 refine rg0 ?_
 repeat refine c_r ?_
 refine W_alloc1 ?_
 intro A1 hE1 hs1 hA
 have p0 : cellO A1 (some ⟨A.heap.size, 0, Option.none⟩) = some ow := cellO_at hA rfl
 have q1 : cellO A1 (some ⟨bn, 0, Option.none⟩) = some nv := cellO_ext (hE.trans hE1) (cellO_at hn rfl)
 refine rq ?_; intro gd K hgd hK
 try simp (disch := first | omega | assumption | rfl) only [↓reduceIte, go_sem, Nat.reduceLT, Nat.reduceEqDiff, Nat.reduceSub, p0, q1, Nat.add_zero]
 refine Fn.mono (Same_ok _ _ _ _ _ (a1.ext (hE0.trans (hE.trans hE1))) (hrn.ext (hE.trans hE1)) (hoks r hr).lb hok.lb (by have := (hoks r hr).len; omega) (by have := hok.len; omega)) ?_
 rintro _ A2 ⟨rfl, hE2⟩
 try simp (disch := first | omega | assumption | rfl) only [↓reduceIte, go_sem, Nat.reduceLT, Nat.reduceEqDiff, Nat.reduceSub]
 refine hK _ _ ?_; clear hK hgd; clear K; try clear gd
 repeat refine c_r ?_
 refine rt0 Tryz.ntmps135 ?_
 exact ⟨rfl, hE1.trans hE2⟩
theorem Exists_ok {w0 w : World} {ov lv nv : Value} {o n : Nm} {R : List RecL} (hz : ZnAt w0 w ov lv o R) (hn : Row w nv (n.map vs)) (hok : NmS n) :
  Fn Tryz.prog 63 #[.agg #[ov, lv], nv] w (fun v w' => v = .bool (existsL o R n) ∧ Ext w w') := by
 obtain ⟨ao, co, hov, hrest⟩ := id hz.org
 obtain ⟨al, cl, hlv, _⟩ := hz.recs.open
 obtain ⟨an, cn, hnv, _⟩ := id hn
 rw [List.length_map] at hov hnv
 rw [hov, hlv, hnv]
 refine enter Tryz.func63 Tryz.ntmps63 rfl rfl ?_
 repeat refine c_r ?_
 refine rg0 ?_
 repeat refine c_r ?_
 rw [← hov, ← hlv, ← hnv]
 simp only [new_size]
 refine W_alloc2 ?_
 intro w1 hE1 hs1 hA hB
 have p0 : cellO w1 (some ⟨w.heap.size, 0, Option.none⟩) = some ov := cellO_at hA rfl
 have q0 : cellO w1 (some ⟨w.heap.size + 1, 0, Option.none⟩) = some nv := cellO_at hB rfl
 have hz1 := hz.ext hE1
 refine rq ?_; intro gd K hgd hK
 try simp (disch := first | omega | assumption | rfl) only [↓reduceIte, go_sem, Nat.reduceLT, Nat.reduceEqDiff, Nat.reduceSub, p0, q0, Nat.add_zero]
 refine Fn.mono (Under_ok _ _ _ _ _ (hn.ext hE1) hz1.org hok.lb hz.lb (by have := hok.len; omega) (by have := hz.ol; omega)) ?_
 rintro _ w2 ⟨rfl, hE2⟩
 try simp (disch := first | omega | assumption | rfl) only [↓reduceIte, go_sem, Nat.reduceLT, Nat.reduceEqDiff, Nat.reduceSub]
 refine hK _ _ ?_; clear hK hgd; clear K; try clear gd
 repeat refine c_r ?_
 refine wc0 ?_ ?_
 ·intro hu
  simp only [Bool.not_eq_true'] at hu
  repeat (first | refine c_r ?_ | refine rg0 ?_)
  refine rt0 Tryz.ntmps63 ?_
  exact ⟨by unfold existsL; rw [hu, Bool.false_and], hE1.trans hE2⟩
 ·intro hu
  simp only [Bool.not_eq_false'] at hu
  have p0' := cellO_ext hE2 p0
  have p1' : cellO w2 (some ⟨w.heap.size, 1, Option.none⟩) = some lv := cellO_ext hE2 (cellO_at hA rfl)
  have q0' := cellO_ext hE2 q0
  rw [hov] at p0'
  rw [hnv] at q0'
  have hz2 := hz1.ext hE2
  repeat refine c_r ?_
  by_cases hlen : (n.length : Int) = (o.length : Int)
  ·refine rq ?_; intro gd K hgd hK
   have hg6 : ∀ n σ b, wantV gd n σ (some (6, b)) = boolIs (ev n σ (.tmp 16)) b := (fun n σ b => by rw [wantV_some, show gd 6 = some 16 from (by rw [hgd]; rfl)]; rfl)
   try simp (disch := first | omega | assumption | rfl) only [↓reduceIte, go_sem, Nat.reduceLT, Nat.reduceEqDiff, Nat.reduceSub, p0', q0', Nat.add_zero, decide_eq_true hlen, ↓hg6]
   refine hK _ _ ?_; clear hK hgd; clear K; try clear gd
   repeat refine c_r ?_
   refine rt0 Tryz.ntmps63 ?_
   refine ⟨?_, hE1.trans hE2⟩
   unfold existsL
   rw [hu, show decide (n.length = o.length) = true from decide_eq_true (by omega)]; rfl
  ·refine rq ?_; intro gd K hgd hK
   have hg6 : ∀ n σ b, wantV gd n σ (some (6, b)) = boolIs (ev n σ (.tmp 16)) b := (fun n σ b => by rw [wantV_some, show gd 6 = some 16 from (by rw [hgd]; rfl)]; rfl)
   try simp (disch := first | omega | assumption | rfl) only [↓reduceIte, go_sem, Nat.reduceLT, Nat.reduceEqDiff, Nat.reduceSub, p0', p1', q0', Nat.add_zero, Nat.zero_add, decide_eq_false hlen, ↓hg6]
   refine Fn.mono (Contains_ok (cap := [.pointer (some ⟨w.heap.size + 1, 0, Option.none⟩)]) hz2.recs (tell_Exists hz2.e0 (hE2.at hB) (hn.ext (hE1.trans hE2)) hok hz.ok) hz.rl) ?_
   rintro _ w3 ⟨rfl, hE3⟩
   try simp (disch := first | omega | assumption | rfl) only [↓reduceIte, go_sem, Nat.reduceLT, Nat.reduceEqDiff, Nat.reduceSub]
   refine hK _ _ ?_; clear hK hgd; clear K; try clear gd
   repeat refine c_r ?_
   refine rt0 Tryz.ntmps63 ?_
   refine ⟨?_, (hE1.trans hE2).trans hE3⟩
   unfold existsL
   rw [hu, show decide (n.length = o.length) = false from decide_eq_false (by omega)]; rfl
end Go.Proofs.YtopbbjdembnfdaaGreat
namespace Go.Proofs.YtopbbjdembnfdaaGreat.P_cs
open Go Go.Proofs.YtopbbjdembnfdaaGreat
set_option maxRecDepth 10000
theorem Clip_ok {w : World} {a : Option Addr} {n c : Nat} (hc : n ≤ c) : Fn Tryz.prog 83 #[.slice a n c] w (fun u w' => u = .slice a n n ∧ w' = w) := by
 refine enter Tryz.func83 Tryz.ntmps83 rfl rfl ?_
 repeat refine c_r ?_
 refine rg0 ?_
 repeat refine c_r ?_
 refine rq ?_; intro gd K hgd hK
 try simp (disch := first | omega | assumption | rfl) only [↓reduceIte, go_sem, Nat.reduceLT, Nat.reduceEqDiff, Nat.reduceSub]
 have hcl : slD Tryz.prog (some (TypeDesc.slice 9)) (Value.slice a n c) Option.none (some (Value.int IntKind.i64 ↑n)) (some (Value.int IntKind.i64 ↑n)) = some (.slice a n n) := s_clip hc (by rfl)
 rw [hcl]
 try simp (disch := first | omega | assumption | rfl) only [↓reduceIte, go_sem, Nat.reduceLT, Nat.reduceEqDiff, Nat.reduceSub]
 refine hK _ _ ?_; clear hK hgd; clear K; try clear gd
 repeat refine c_r ?_
 refine rt0 Tryz.ntmps83 ?_
 exact ⟨rfl, rfl⟩
end Go.Proofs.YtopbbjdembnfdaaGreat.P_cs
namespace Go.Proofs.YtopbbjdembnfdaaGreat
open Go
set_option maxRecDepth 10000
theorem Row.keepB {w x : World} {v : Value} {l : List Value} {S : Nat → Prop} {B : Nat} (h : Row w v l) (hk : Keep S w x) (hB : BlkB B w v) (hS : ∀ b, B ≤ b → b < w.heap.size → ¬ S b) : Row x v l :=
 h.blocks fun a n c hv => hk.block _ (hB a n c hv).2 (hS _ (hB a n c hv).1 (hB a n c hv).2)
theorem Own.blk {B : Nat} {w : World} {e : TypeId} {v : Value} {l : List Value} (h : Own B w e v l) : BlkB B w v := fun a n c hv => (h.rowB).2 a n c hv
theorem CloneS_ok {w : World} {v : Value} {n : Nm} (hr : Row w v (n.map vs)) (hlen : n.length ≤ 1000000000000) :
  Fn Tryz.prog 84 #[v] w (fun u w' => Own w.heap.size w' 9 u (n.map vs) ∧ Ext w w') := by
 have hr' := hr
 obtain ⟨a, c, rfl, hc, hl⟩ := hr
 refine enter Tryz.func84 Tryz.ntmps84 rfl rfl ?_
 repeat refine c_r ?_
 refine rg0 ?_
 repeat refine c_r ?_
 refine rq ?_; intro gd K hgd hK
 try simp (disch := first | omega | assumption | rfl) only [↓reduceIte, go_sem, Nat.reduceLT, Nat.reduceEqDiff, Nat.reduceSub]
 refine eql_nil (by rfl) (by rfl) (by rfl) ?_
 try simp (disch := first | omega | assumption | rfl) only [↓reduceIte, go_sem, Nat.reduceLT, Nat.reduceEqDiff, Nat.reduceSub]
 refine hK _ _ ?_; clear hK hgd; clear K; try clear gd
 repeat refine c_r ?_
 cases a with
 | none =>
  have : n = [] := by
   cases n with
   | nil => rfl
   | cons x L => have := hl 0 (by simp); simp [cellO, adr] at this
  subst this
  refine wc0 ?_ ?_
  ·intro _
   repeat refine c_r ?_
   refine rg0 ?_
   repeat refine c_r ?_
   refine rt0 Tryz.ntmps84 ?_
   exact ⟨Own.nil _ _ _, Keep.refl _ _⟩
  ·intro h; cases h
 | some a =>
  refine wc0 ?_ ?_
  ·intro h; cases h
  intro _
  repeat refine c_r ?_
  refine rq ?_; intro gd K hgd hK
  try simp (disch := first | omega | assumption | rfl) only [↓reduceIte, go_sem, Nat.reduceLT, Nat.reduceEqDiff, Nat.reduceSub]
  refine bs_nil (z := vs []) (by rfl) (by rfl) (by rfl) (by rfl) ?_
  intro w1 hE1 hs1 ho1
  try simp (disch := first | omega | assumption | rfl) only [↓reduceIte, go_sem, Nat.reduceLT, Nat.reduceEqDiff, Nat.reduceSub]
  refine op_app (B := w.heap.size) ho1 (hr'.ext hE1) (by rfl) (by rfl) (by rfl) (by rfl) (by rfl) (by rfl) (by rfl) (by rfl) (ones_vs _) (by simp; omega) (by decide) (by omega) ?_
  intro v' w2 ho2 hE2 _ _
  try simp (disch := first | omega | assumption | rfl) only [↓reduceIte, go_sem, Nat.reduceLT, Nat.reduceEqDiff, Nat.reduceSub]
  refine hK _ _ ?_; clear hK hgd; clear K; try clear gd
  repeat refine c_r ?_
  refine rt0 Tryz.ntmps84 ?_
  exact ⟨by simpa using ho2, hE2 w hE1 (Nat.le_refl _)⟩
theorem findL_at {α : Type} {p : α → Bool} {l pre suf : List α} {x : α} (h : l = pre ++ x :: suf) (hp : ∀ y ∈ pre, p y = false) (hx : p x = true) : l.find? p = some x := by
 rw [h, List.find?_append]
 have : pre.find? p = Option.none := by
  rw [List.find?_eq_none]
  intro y hy
  rw [hp y hy]; exact Bool.false_ne_true
 rw [this]
 simp [hx]
theorem findL_none {α : Type} {p : α → Bool} {l : List α} (hp : ∀ y ∈ l, p y = false) : l.find? p = Option.none := by
 rw [List.find?_eq_none]
 intro y hy
 rw [hp y hy]; exact Bool.false_ne_true
theorem CutOf_ok {w0 w : World} {ov lv nv : Value} {o n : Nm} {R : List RecL} (hz : ZnAt w0 w ov lv o R) (hn : Row w nv (n.map vs)) (hok : NmS n) :
  Fn Tryz.prog 27 #[.agg #[ov, lv], nv] w (fun v w' => Ext w w' ∧ ∃ cv, v = .tuple #[cv, .bool (cutL o R n).isSome] ∧ Row w' cv (((cutL o R n).getD []).map vs)) := by
 obtain ⟨ao, co, hov, _⟩ := id hz.org
 obtain ⟨al, cl, hlv, _⟩ := hz.recs.open
 obtain ⟨an, cn, hnv, _⟩ := id hn
 rw [List.length_map] at hov hnv
 rw [hov, hlv, hnv]
 refine enter Tryz.func27 Tryz.ntmps27 rfl rfl ?_
 repeat refine c_r ?_
 refine rg0 ?_
 repeat refine c_r ?_
 rw [← hov, ← hlv, ← hnv]
 simp only [new_size]
 refine W_alloc3 ?_
 intro w1 hE1 hs1 hA hB hC
 have p0 : cellO w1 (some ⟨w.heap.size, 0, Option.none⟩) = some ov := cellO_at hA rfl
 have hz1 := hz.ext hE1
 refine rq ?_; intro gd K hgd hK
 try simp (disch := first | omega | assumption | rfl) only [↓reduceIte, go_sem, Nat.reduceLT, Nat.reduceEqDiff, Nat.reduceSub, p0, Nat.add_zero]
 refine Fn.mono (Under_ok _ _ _ _ _ (hn.ext hE1) hz1.org hok.lb hz.lb (by have := hok.len; omega) (by have := hz.ol; omega)) ?_
 rintro _ w2 ⟨rfl, hE2⟩
 try simp (disch := first | omega | assumption | rfl) only [↓reduceIte, go_sem, Nat.reduceLT, Nat.reduceEqDiff, Nat.reduceSub]
 refine hK _ _ ?_; clear hK hgd; clear K; try clear gd
 have hB2 := hE2.at hB
 have hC2 := hE2.at hC
 have hEw2 := hE1.trans hE2
 have fin : ∀ {σ' : Sto} {Z : World} {cv : Value} {b : Bool}, σ' 4 = .pointer (some ⟨w.heap.size + 1, 0, Option.none⟩) → σ' 5 = .pointer (some ⟨w.heap.size + 1 + 1, 0, Option.none⟩) → Z.heap[w.heap.size + 1]? = some (.cells #[cv] 23 (0, 0)) → Z.heap[w.heap.size + 1 + 1]? = some (.cells #[.bool b] 4 (0, 0)) →
   resV Tryz.prog 30 σ' Z [.cell 4 23, .cell 5 4] = some [cv, .bool b] := fun h4 h5 c4 c5 =>
  res_one (x := ⟨w.heap.size + 1, 0, Option.none⟩) ((vq1 h4)) rfl rfl (cellO_at c4 rfl) (res_one (x := ⟨w.heap.size + 1 + 1, 0, Option.none⟩) ((vq1 h5)) rfl rfl (cellO_at c5 rfl) res_nil)
 repeat refine c_r ?_
 refine wc0 ?_ ?_
 ·intro hu
  simp only [Bool.not_eq_true'] at hu
  have hcut : cutL o R n = Option.none := by unfold cutL; rw [hu]; rfl
  repeat refine c_r ?_
  refine rq ?_; intro gd K hgd hK
  try simp (disch := first | omega | assumption | rfl) only [↓reduceIte, go_sem, Nat.reduceLT, Nat.reduceEqDiff, Nat.reduceSub]
  refine sv_at (P := Tryz.prog) (t := 23) (j := 0) (l := [.slice Option.none 0 0]) hB2 (by simp) rfl rfl rfl ?_
  intro z1 hz1' hbz1 hkz1
  try simp (disch := first | omega | assumption | rfl) only [↓reduceIte, go_sem, Nat.reduceLT, Nat.reduceEqDiff, Nat.reduceSub]
  refine sv_at (P := Tryz.prog) (t := 4) (j := 0) (l := [.bool false]) ((hkz1.block _ (by have := hE2.size; omega) (by omega)).trans hC2) (by simp) rfl rfl rfl ?_
  intro z2 hz2' hbz2 hkz2
  try simp (disch := first | omega | assumption | rfl) only [↓reduceIte, go_sem, Nat.reduceLT, Nat.reduceEqDiff, Nat.reduceSub]
  refine hK _ _ ?_; clear hK hgd; clear K; try clear gd
  have hkz : Keep (fun b => b = w.heap.size + 1 ∨ b = w.heap.size + 1 + 1) w2 z2 := (hkz1.mono (fun b _ h => .inl h)).trans (hkz2.mono (fun b _ h => .inr h))
  have c4 := (hkz2.block (w.heap.size + 1) (by have := hE2.size; omega) (by omega)).trans hbz1
  repeat refine c_r ?_
  refine ret_any (.inr rfl) Tryz.ntmps27 rfl (fin (vq0) (vq0) (by simpa using c4) (by simpa using hbz2)) ?_
  exact ⟨Keep.to_ext hEw2 rfl (fun b hb => by omega) hkz, _, by rw [hcut]; rfl, by rw [hcut]; exact ⟨Option.none, 0, rfl, Nat.le_refl _, fun j h => absurd h (by simp)⟩⟩
 intro hu
 simp only [Bool.not_eq_false'] at hu
 have hA2 := hE2.at hA
 have d2 := sv_cells (n := 2) (l := [ov, lv]) hA2 rfl
 repeat refine c_r ?_
 refine rq ?_; intro gd K hgd hK
 try simp (disch := first | omega | assumption | rfl) only [↓reduceIte, go_sem, Nat.reduceLT, Nat.reduceEqDiff, Nat.reduceSub, d2]
 refine Fn.mono (Down_ok ⟨_, _, _, hnv⟩) ?_
 rintro _ w3 ⟨rfl, hE3, hs3, hbz, hbn⟩
 try simp (disch := first | omega | assumption | rfl) only [↓reduceIte, go_sem, Nat.reduceLT, Nat.reduceEqDiff, Nat.reduceSub]
 refine hK _ _ ?_; clear hK hgd; clear K; try clear gd
 have hEw3 := hEw2.trans hE3
 have hz3 := hz.ext hEw3
 have hn3 := hn.ext hEw3
 have s1 := hE1.size
 have s2 := hE2.size
 have hA3 := hE3.at hA2
 have hB3 := hE3.at hB2
 have hC3 := hE3.at hC2
 repeat refine c_r ?_
 refine W_range (g := 125) (cap := #[.pointer (some ⟨w2.heap.size + 1, 0, Option.none⟩), .pointer (some ⟨w2.heap.size, 0, Option.none⟩)]) (vq0) rfl (downIt (C := fun b => b = w.heap.size + 1 ∨ b = w.heap.size + 1 + 1) hbn hbz hn3 hz3.org (by omega) (by omega) hz.ol hok.len) (Keep.refl _ _) (Nat.le_refl _) (fun b hb => by omega)
  (fun x B args h => by obtain ⟨v, h, _⟩ := h; rw [h]; rfl)
  (fun pre B => Ext w3 B ∧ ∀ x ∈ pre, cutP o R x = false)
  (fun c pre B => c = .ret ∧ ∃ pre' x cv, pre = pre' ++ [x] ∧ cutP o R x = true ∧ (∀ y ∈ pre', cutP o R y = false) ∧ Ext w B ∧ B.heap[w.heap.size + 1]? = some (.cells #[cv] 23 (0, 0)) ∧ B.heap[w.heap.size + 1 + 1]? = some (.cells #[.bool true] 4 (0, 0)) ∧ Row B cv (x.map vs) ∧ BlkB (w3.heap.size + 2) B cv) ?_ ?_ ?_ ?_ ?_ ?_
 ·rintro pre B B' ⟨hEB, hp⟩ hk
  exact ⟨Keep.to_ext hEB rfl (fun b hb => by unfold two at hb; omega) hk, hp⟩
 ·rintro c pre B B' ⟨rfl, pre', x, cv, rfl, h1, h2, hEB, c4, c5, hr, hb⟩ hk
  exact ⟨rfl, pre', x, cv, rfl, h1, h2, Keep.to_ext hEB rfl (fun b hb => by unfold two at hb; omega) hk, (hk.block _ (Array.getElem?_eq_some_iff.1 c4).1 (by unfold two; omega)).trans c4, (hk.block _ (Array.getElem?_eq_some_iff.1 c5).1 (by unfold two; omega)).trans c5, hr.keepB hk hb (fun b hb _ => by unfold two; omega), hb.ext hk.size⟩
 ·exact ⟨Keep.refl _ _, fun x h => absurd h (by simp)⟩
 ·rintro lp pre x suf B args hxs hszB ⟨hEB, hp⟩ ⟨xv, rfl, hxr⟩
  have hxn : ∃ k, k ≤ n.length ∧ x = n.drop k := by
   have : x ∈ downs o n := by rw [hxs]; simp
   unfold downs at this
   split at this
   ·obtain ⟨i, hi, h⟩ := downF_mem.1 this
    exact ⟨i, by omega, h⟩
   ·cases this
  obtain ⟨kx, hkx, rfl⟩ := hxn
  obtain ⟨x, hx⟩ : ∃ x, n.drop kx = x := ⟨_, rfl⟩
  have hxok : NmS x := hx ▸ hok.drop kx
  rw [hx] at hxr hxs ⊢
  obtain ⟨ax, cx, hxv, _⟩ := id hxr
  rw [List.length_map] at hxv
  have hol := hz.ol
  have hxl := hxok.len
  refine rq ?_; intro gd K hgd hK
  try simp (disch := first | omega | assumption | rfl) only [↓reduceIte, go_sem, Nat.reduceLT, Nat.reduceEqDiff, Nat.reduceSub]
  refine hK _ _ ?_; clear hK hgd; clear K; try clear gd
  refine thenQ_normal ?_
  refine ⟨rfl, KeepB.refl _ _ _, fun Y hY => ?_⟩
  have hEY : Ext w3 Y := Keep.to_ext hEB rfl (fun b hb => by unfold two at hb; omega) hY
  have hzY := hz3.ext hEY
  have p0 : cellO Y (some ⟨w.heap.size, 0, Option.none⟩) = some ov := cellO_at (hEY.at hA3) rfl
  have d2 := sv_cells (n := 2) (l := [ov, lv]) (hEY.at hA3) rfl
  have hYs := hY.size
  rw [hov] at p0
  repeat refine c_r ?_
  refine W_mono (Q := fun e σ' ds' v' => e = .normal ∧ ds' = [] ∧ σ' 6 = xv ∧ σ' 4 = .pointer (some ⟨w.heap.size + 1, 0, Option.none⟩) ∧ σ' 5 = .pointer (some ⟨w.heap.size + 1 + 1, 0, Option.none⟩) ∧ Ext Y v' ∧ σ' 26 = .bool (cutP o R x)) ?_ ?_
  ·by_cases hl : (o.length : Int) < (x.length : Int)
   ·refine rq ?_; intro gd K hgd hK
    have hg6 : ∀ n σ b, wantV gd n σ (some (6, b)) = boolIs (ev n σ (.tmp 22)) b := (fun n σ b => by rw [wantV_some, show gd 6 = some 22 from (by rw [hgd]; rfl)]; rfl)
    try simp (disch := first | omega | assumption | rfl) only [↓reduceIte, go_sem, Nat.reduceLT, Nat.reduceEqDiff, Nat.reduceSub, hxv, p0, d2, decide_eq_true hl, Nat.add_zero, ↓hg6]
    rw [← hxv]
    refine Fn.mono (Has_ok hzY (hxr.ext hEY) hxok) ?_
    rintro _ Y2 ⟨rfl, hY2⟩
    try simp (disch := first | omega | assumption | rfl) only [↓reduceIte, go_sem, Nat.reduceLT, Nat.reduceEqDiff, Nat.reduceSub]
    refine hK _ _ ?_; clear hK hgd; clear K; try clear gd
    refine ⟨rfl, rfl, vq0, vq0, vq0, hY2, ?_⟩
    unfold cutP hasL
    rw [show decide (o.length < x.length) = true from decide_eq_true (by omega), Bool.true_and]
    simp only [↓reduceIte, go_sem, Nat.reduceLT, Nat.reduceEqDiff, Nat.reduceSub]
   ·refine rq ?_; intro gd K hgd hK
    have hg6 : ∀ n σ b, wantV gd n σ (some (6, b)) = boolIs (ev n σ (.tmp 22)) b := (fun n σ b => by rw [wantV_some, show gd 6 = some 22 from (by rw [hgd]; rfl)]; rfl)
    try simp (disch := first | omega | assumption | rfl) only [↓reduceIte, go_sem, Nat.reduceLT, Nat.reduceEqDiff, Nat.reduceSub, hxv, p0, decide_eq_false hl, Nat.add_zero, ↓hg6]
    rw [← hxv]
    refine hK _ _ ?_; clear hK hgd; clear K; try clear gd
    refine ⟨rfl, rfl, vq0, vq0, vq0, Keep.refl _ _, ?_⟩
    unfold cutP hasL
    rw [show decide (o.length < x.length) = false from decide_eq_false (by omega), Bool.false_and]
    simp only [↓reduceIte, go_sem, Nat.reduceLT, Nat.reduceEqDiff, Nat.reduceSub]
  rintro _ σ1 _ Y1 ⟨rfl, rfl, h6, h4, h5, hY1, h26⟩
  repeat refine c_r ?_
  refine W_cond (t := cutP o R x) ((vq1 h26)) ?_ ?_
  ·intro ht
   repeat refine c_r ?_
   refine rq ?_; intro gd K hgd hK
   try simp (disch := first | omega | assumption | rfl) only [↓reduceIte, go_sem, Nat.reduceLT, Nat.reduceEqDiff, Nat.reduceSub, h6, h4, h5]
   refine Fn.mono (CloneS_ok (hxr.ext (hEY.trans hY1)) hxok.len) ?_
   rintro u Y2 ⟨hou, hY2⟩
   try simp (disch := first | omega | assumption | rfl) only [↓reduceIte, go_sem, Nat.reduceLT, Nat.reduceEqDiff, Nat.reduceSub]
   obtain ⟨au, cu, hu'⟩ := hou.slice
   have hur := hou.row
   have hub := hou.blk
   rw [hu'] at hur hub
   rw [List.length_map] at hu' hur hub
   rw [hu']
   obtain ⟨_, _, he, hcc, hgg⟩ := id hur
   injection he with e1 e2 e3
   subst e1 e3
   rw [List.length_map] at hcc
   refine Fn.mono (P_cs.Clip_ok hcc) ?_
   rintro _ y0 ⟨rfl, hy0⟩
   try simp (disch := first | omega | assumption | rfl) only [↓reduceIte, go_sem, Nat.reduceLT, Nat.reduceEqDiff, Nat.reduceSub, h4, h5]
   rw [hy0]
   clear hy0 y0
   have hYY := (hEY.trans hY1).trans hY2
   have s5 := hY1.size
   have s6 := hY2.size
   refine sv_at (P := Tryz.prog) (t := 23) (j := 0) (l := [.slice Option.none 0 0]) (Ext.at hYY hB3) (by simp) rfl rfl rfl ?_
   intro z1 hz1' hbz1 hkz1
   try simp (disch := first | omega | assumption | rfl) only [↓reduceIte, go_sem, Nat.reduceLT, Nat.reduceEqDiff, Nat.reduceSub, h5]
   refine sv_at (P := Tryz.prog) (t := 4) (j := 0) (l := [.bool false]) ((hkz1.block _ (by omega) (by omega)).trans (Ext.at hYY hC3)) (by simp) rfl rfl rfl ?_
   intro z2 hz2' hbz2 hkz2
   try simp (disch := first | omega | assumption | rfl) only [↓reduceIte, go_sem, Nat.reduceLT, Nat.reduceEqDiff, Nat.reduceSub]
   refine hK _ _ ?_; clear hK hgd; clear K; try clear gd
   have hkz : Keep (fun b => b = w.heap.size + 1 ∨ b = w.heap.size + 1 + 1) Y2 z2 := (hkz1.mono (fun b _ h => .inl h)).trans (hkz2.mono (fun b _ h => .inr h))
   have c4 := (hkz2.block (w.heap.size + 1) (by omega) (by omega)).trans hbz1
   have hrc : Row Y2 (.slice au x.length x.length) (x.map vs) := ⟨au, x.length, by rw [List.length_map], by rw [List.length_map]; exact Nat.le_refl _, hgg⟩
   have hbc : BlkB (w3.heap.size + 2) Y2 (.slice au x.length x.length) := hub.same.mono (by omega)
   repeat refine c_r ?_
   refine ⟨⟨rfl, pre, x, _, rfl, ht, hp, Keep.to_ext (hEw3.trans hYY) rfl (fun b hb => by omega) hkz, by simpa using c4, by simpa using hbz2, hrc.keepB hkz hbc (fun b hb _ => by omega), hbc.ext hkz.size⟩, KeepB.trans ((hY1.trans hY2).toB (by omega) (fun _ _ h => h.elim)) (hkz.toB (by omega) (fun i _ h => h))⟩
  ·intro ht
   repeat refine c_r ?_
   refine ⟨⟨hEY.trans hY1, fun y hy => ?_⟩, hY1.toB (by omega) (fun _ _ h => h.elim)⟩
   rcases List.mem_append.1 hy with hy | hy
   ·exact hp y hy
   ·rw [List.mem_singleton.1 hy]; exact ht
 ·intro B hszB ⟨hEB, hp⟩ hD
  have hcut : cutL o R n = Option.none := by unfold cutL; rw [hu]; exact findL_none hp
  repeat refine c_r ?_
  refine rq ?_; intro gd K hgd hK
  try simp (disch := first | omega | assumption | rfl) only [↓reduceIte, go_sem, Nat.reduceLT, Nat.reduceEqDiff, Nat.reduceSub]
  refine sv_at (P := Tryz.prog) (t := 23) (j := 0) (l := [.slice Option.none 0 0]) (hEB.at hB3) (by simp) rfl rfl rfl ?_
  intro z1 hz1' hbz1 hkz1
  try simp (disch := first | omega | assumption | rfl) only [↓reduceIte, go_sem, Nat.reduceLT, Nat.reduceEqDiff, Nat.reduceSub]
  refine sv_at (P := Tryz.prog) (t := 4) (j := 0) (l := [.bool false]) ((hkz1.block _ (by omega) (by omega)).trans (hEB.at hC3)) (by simp) rfl rfl rfl ?_
  intro z2 hz2' hbz2 hkz2
  try simp (disch := first | omega | assumption | rfl) only [↓reduceIte, go_sem, Nat.reduceLT, Nat.reduceEqDiff, Nat.reduceSub]
  refine hK _ _ ?_; clear hK hgd; clear K; try clear gd
  have hkz : Keep (fun b => b = w.heap.size + 1 ∨ b = w.heap.size + 1 + 1) B z2 := (hkz1.mono (fun b _ h => .inl h)).trans (hkz2.mono (fun b _ h => .inr h))
  have c4 := (hkz2.block (w.heap.size + 1) (by omega) (by omega)).trans hbz1
  repeat refine c_r ?_
  refine ret_anyM (.inr rfl) Tryz.ntmps27 rfl ((hkz.block _ (by omega) (by omega)).trans hD) ?_
  intro Z hkZ hsZ
  refine ⟨_, fin (vq0) (vq0) ((hkZ.block _ (by omega) (by omega)).trans (by simpa using c4)) ((hkZ.block _ (by omega) (by omega)).trans (by simpa using hbz2)), Keep.to_ext (Keep.to_ext (hEw3.trans hEB) rfl (fun b hb => by omega) hkz) rfl (fun b hb => by omega) hkZ, _, by rw [hcut]; rfl, by rw [hcut]; exact ⟨Option.none, 0, rfl, Nat.le_refl _, fun j h => absurd h (by simp)⟩⟩
 ·rintro c pre x0 suf B hszB hxs ⟨rfl, pre', x, cv, hpre, h1, h2, hEB, c4, c5, hr, hb⟩ hD
  obtain ⟨rfl, h3⟩ := List.append_inj' hpre rfl
  have hx0 : x0 = x := by simpa using h3
  subst hx0
  have hcut : cutL o R n = some x0 := by unfold cutL; rw [hu]; exact findL_at hxs h2 h1
  repeat refine c_r ?_
  refine ret_anyM (.inr rfl) Tryz.ntmps27 rfl hD ?_
  intro Z hkZ hsZ
  refine ⟨_, fin (vq0) (vq0) ((hkZ.block _ (by omega) (by omega)).trans c4) ((hkZ.block _ (by omega) (by omega)).trans c5), Keep.to_ext hEB rfl (fun b hb => by omega) hkZ, cv, by rw [hcut]; rfl, by rw [hcut]; exact hr.keepB hkZ hb (fun b hb _ => by omega)⟩
theorem blockQ_either {id : Nat} {Q : Post} {e : Exit} {σ : Sto} {ds : List Deferred} {w : World} (he : e = .normal ∨ e = .exit id) (h : Q .normal σ ds w) : blockQ id Q e σ ds w := by
 rcases he with rfl | rfl
 ·exact blockQ_normal h
 ·exact blockQ_same h
theorem Where_ok {w0 w : World} {ov lv nv : Value} {o n : Nm} {R : List RecL} (hz : ZnAt w0 w ov lv o R) (hn : Row w nv (n.map vs)) (hok : NmS n) :
  Fn Tryz.prog 58 #[.agg #[ov, lv], nv] w (fun v w' => v = vi (whereL o R n) ∧ Ext w w') := by
 obtain ⟨ao, co, hov, _⟩ := id hz.org
 obtain ⟨al, cl, hlv, _⟩ := hz.recs.open
 obtain ⟨an, cn, hnv, _⟩ := id hn
 rw [List.length_map] at hov hnv
 rw [hov, hlv, hnv]
 refine enter Tryz.func58 Tryz.ntmps58 rfl rfl ?_
 repeat refine c_r ?_
 refine rg0 ?_
 repeat refine c_r ?_
 rw [← hov, ← hlv, ← hnv]
 refine W_alloc1 ?_
 intro w1 hE1 hs1 hA
 have p0 : cellO w1 (some ⟨w.heap.size, 0, Option.none⟩) = some ov := cellO_at hA rfl
 have hz1 := hz.ext hE1
 refine rq ?_; intro gd K hgd hK
 try simp (disch := first | omega | assumption | rfl) only [↓reduceIte, go_sem, Nat.reduceLT, Nat.reduceEqDiff, Nat.reduceSub, p0, Nat.add_zero]
 refine Fn.mono (Under_ok _ _ _ _ _ (hn.ext hE1) hz1.org hok.lb hz.lb (by have := hok.len; omega) (by have := hz.ol; omega)) ?_
 rintro _ w2 ⟨rfl, hE2⟩
 try simp (disch := first | omega | assumption | rfl) only [↓reduceIte, go_sem, Nat.reduceLT, Nat.reduceEqDiff, Nat.reduceSub]
 refine hK _ _ ?_; clear hK hgd; clear K; try clear gd
 repeat refine c_r ?_
 refine wc0 ?_ ?_
 ·intro hu
  simp only [Bool.not_eq_true'] at hu
  repeat (first | refine c_r ?_ | refine rg0 ?_)
  refine rt0 Tryz.ntmps58 ?_
  exact ⟨by unfold whereL; rw [hu]; rfl, hE1.trans hE2⟩
 intro hu
 simp only [Bool.not_eq_false'] at hu
 have d2 := sv_cells (n := 2) (l := [ov, lv]) (hE2.at hA) rfl
 repeat refine c_r ?_
 refine rq ?_; intro gd K hgd hK
 try simp (disch := first | omega | assumption | rfl) only [↓reduceIte, go_sem, Nat.reduceLT, Nat.reduceEqDiff, Nat.reduceSub, d2]
 refine Fn.mono (CutOf_ok (hz1.ext hE2) (hn.ext (hE1.trans hE2)) hok) ?_
 rintro _ w3 ⟨hE3, cv, rfl, hcv⟩
 try simp (disch := first | omega | assumption | rfl) only [↓reduceIte, go_sem, Nat.reduceLT, Nat.reduceEqDiff, Nat.reduceSub]
 refine hK _ _ ?_; clear hK hgd; clear K; try clear gd
 obtain ⟨ac, cc, hcv', _⟩ := id hcv
 rw [List.length_map] at hcv'
 have hE := (hE1.trans hE2).trans hE3
 cases hc : cutL o R n with
 | none =>
  rw [hc] at hcv' hcv
  repeat (first | refine c_r ?_ | refine rg0 ?_)
  refine wc0 ?_ ?_
  ·intro _
   repeat (first | refine c_r ?_ | refine rg0 ?_)
   refine rt0 Tryz.ntmps58 ?_
   exact ⟨by unfold whereL; rw [hu, hc]; rfl, hE⟩
  ·intro h; simp at h
 | some c =>
  rw [hc] at hcv' hcv
  simp only [Option.getD_some] at hcv'
  repeat refine c_r ?_
  refine rg0 ?_
  repeat refine c_r ?_
  refine wc0 ?_ ?_
  ·intro h; simp at h
  intro _
  repeat refine c_r ?_
  refine rg2 hcv' hnv ?_
  repeat refine c_r ?_
  refine wc0 ?_ ?_
  ·intro hl
   simp only [decide_eq_true_eq] at hl
   repeat (first | refine c_r ?_ | refine rg0 ?_)
   refine rt0 Tryz.ntmps58 ?_
   refine ⟨?_, hE⟩
   unfold whereL
   rw [hu, hc]
   simp only [if_true]
   rw [if_pos (by omega)]
  ·intro hl
   simp only [decide_eq_false_iff_not] at hl
   repeat (first | refine c_r ?_ | refine rg0 ?_)
   refine rt0 Tryz.ntmps58 ?_
   refine ⟨?_, hE⟩
   unfold whereL
   rw [hu, hc]
   simp only [if_true]
   rw [if_neg (by omega)]
theorem takeWhile_at {α : Type} {p : α → Bool} {l pre suf : List α} {x : α} (h : l = pre ++ x :: suf) (hp : ∀ y ∈ pre, p y = true) (hx : p x = false) : l.takeWhile p = pre := by
 rw [h, List.takeWhile_append_of_pos hp, List.takeWhile_cons_of_neg (by rw [hx]; exact Bool.false_ne_true), List.append_nil]
theorem takeWhile_all {α : Type} {p : α → Bool} {l : List α} (hp : ∀ y ∈ l, p y = true) : l.takeWhile p = l := by
 have := List.takeWhile_append_of_pos (l₂ := []) hp
 simpa using this
theorem Encloser_ok {w0 w : World} {ov lv nv : Value} {o n : Nm} {R : List RecL} (hz : ZnAt w0 w ov lv o R) (hn : Row w nv (n.map vs)) (hok : NmS n) :
  Fn Tryz.prog 134 #[.agg #[ov, lv], nv] w (fun v w' => Row w' v ((enclL o R n).map vs) ∧ Ext w w') := by
 obtain ⟨ao, co, hov, _⟩ := id hz.org
 obtain ⟨al, cl, hlv, _⟩ := hz.recs.open
 obtain ⟨an, cn, hnv, _⟩ := id hn
 rw [List.length_map] at hov hnv
 rw [hov, hlv, hnv]
 refine enter Tryz.func134 Tryz.ntmps134 rfl rfl ?_
 repeat refine c_r ?_
 refine rg0 ?_
 repeat refine c_r ?_
 rw [← hov, ← hlv, ← hnv]
 refine W_alloc1 ?_
 intro w1 hE1 hs1 hA
 refine rq ?_; intro gd K hgd hK
 try simp (disch := first | omega | assumption | rfl) only [↓reduceIte, go_sem, Nat.reduceLT, Nat.reduceEqDiff, Nat.reduceSub]
 refine bs_nil (z := vs []) (by rfl) (by rfl) (by rfl) (by rfl) ?_
 intro w2 hE2 hs2 ho2
 try simp (disch := first | omega | assumption | rfl) only [↓reduceIte, go_sem, Nat.reduceLT, Nat.reduceEqDiff, Nat.reduceSub]
 have hB3 := new_block w2 (.cells #[.slice Option.none 0 0] 23 (0, 0))
 have hE3 := Ext.alloc w2 (.cells #[.slice Option.none 0 0] 23 (0, 0))
 have hs3 := new_size w2 (.cells #[.slice Option.none 0 0] 23 (0, 0))
 revert hB3 hE3 hs3
 generalize w2.alloc (.cells #[.slice Option.none 0 0] 23 (0, 0)) = w3
 intro hB3 hE3 hs3
 refine sv_at (P := Tryz.prog) (t := 23) (j := 0) (l := [.slice Option.none 0 0]) hB3 (by simp) rfl rfl rfl ?_
 intro w4 hs4 hB4 hk4
 try simp (disch := first | omega | assumption | rfl) only [↓reduceIte, go_sem, Nat.reduceLT, Nat.reduceEqDiff, Nat.reduceSub]
 refine hK _ _ ?_; clear hK hgd; clear K; try clear gd
 obtain ⟨b5, hb5⟩ : ∃ b5, w2.heap.size = b5 := ⟨_, rfl⟩
 rw [hb5] at hB4 hk4 hs3 ⊢
 have hE14 : Ext w1 w4 := Keep.to_ext (hE2.trans hE3) rfl (fun b hb => by have := hE2.size; omega) hk4
 have hE4 := hE1.trans hE14
 have hA4 := hE14.at hA
 have hro4 : Row w4 (.slice (some ⟨w1.heap.size, 0, Option.none⟩) 0 0) (([] : Nm).map vs) := ⟨_, _, rfl, Nat.le_refl _, fun j h => absurd h (by simp)⟩
 simp only [List.set_cons_zero] at hB4
 have hbw : w.heap.size < b5 := by have := hE2.size; omega
 have hb4 : b5 < w4.heap.size := by omega
 have p0 : cellO w4 (some ⟨w.heap.size, 0, Option.none⟩) = some ov := cellO_at hA4 rfl
 have hz4 := hz.ext hE4
 have hn4 := hn.ext hE4
 clear hk4 hs4 hB3 hE3 hs3 ho2 hs2
 repeat refine c_r ?_
 refine rq ?_; intro gd K hgd hK
 try simp (disch := first | omega | assumption | rfl) only [↓reduceIte, go_sem, Nat.reduceLT, Nat.reduceEqDiff, Nat.reduceSub, p0, Nat.add_zero]
 refine Fn.mono (Under_ok _ _ _ _ _ hn4 hz4.org hok.lb hz.lb (by have := hok.len; omega) (by have := hz.ol; omega)) ?_
 rintro _ w5 ⟨rfl, hE5⟩
 try simp (disch := first | omega | assumption | rfl) only [↓reduceIte, go_sem, Nat.reduceLT, Nat.reduceEqDiff, Nat.reduceSub]
 refine hK _ _ ?_; clear hK hgd; clear K; try clear gd
 repeat refine c_r ?_
 refine wc0 ?_ ?_
 ·intro hu
  simp only [Bool.not_eq_true'] at hu
  have q5 : cellO w5 (some ⟨b5, 0, Option.none⟩) = some (.slice (some ⟨w1.heap.size, 0, Option.none⟩) 0 0) := cellO_ext hE5 (cellO_at hB4 rfl)
  repeat (first | refine c_r ?_ | (refine W_reg (by rfl) ?_; intro gd K hgd hK; simp (disch := first | omega | assumption | rfl) only [↓reduceIte, go_sem, Nat.reduceLT, Nat.reduceEqDiff, Nat.reduceSub, q5]; refine hK _ _ ?_; clear hK hgd; clear K gd))
  refine rt0 Tryz.ntmps134 ?_
  refine ⟨?_, hE4.trans hE5⟩
  have : enclL o R n = [] := by unfold enclL; rw [hu]; rfl
  rw [this]; exact hro4.ext hE5
 intro hu
 simp only [Bool.not_eq_false'] at hu
 have d2 := sv_cells (n := 2) (l := [ov, lv]) (hE5.at hA4) rfl
 have hz5 := hz4.ext hE5
 repeat refine c_r ?_
 refine rq ?_; intro gd K hgd hK
 try simp (disch := first | omega | assumption | rfl) only [↓reduceIte, go_sem, Nat.reduceLT, Nat.reduceEqDiff, Nat.reduceSub, d2]
 refine Fn.mono (Down_ok ⟨_, _, _, hnv⟩) ?_
 rintro _ w6 ⟨rfl, hE6, hs6, hbz, hbn⟩
 try simp (disch := first | omega | assumption | rfl) only [↓reduceIte, go_sem, Nat.reduceLT, Nat.reduceEqDiff, Nat.reduceSub]
 refine hK _ _ ?_; clear hK hgd; clear K; try clear gd
 have hE46 := hE5.trans hE6
 have hz6 := hz5.ext hE6
 have hn6 := hn4.ext hE46
 have hA6 := Ext.at hE46 hA4
 have hB6 := Ext.at hE46 hB4
 have s5 := hE5.size
 have s6 := hE4.size
 have hdm : ∀ {x}, x ∈ downs o n → NmS x := fun {x} hx => by
  unfold downs at hx
  split at hx
  ·obtain ⟨i, hi, h⟩ := downF_mem.1 hx
   rw [h]; exact hok.drop i
  ·cases hx
 repeat refine c_r ?_
 refine W_mono (Q := fun e σ' ds' v' => (e = .normal ∨ e = .exit 0) ∧ ds' = [{ target := .collected w6.heap.size, args := #[] }] ∧ v'.heap[w6.heap.size]? = some (.deferred (some [])) ∧ σ' 5 = .pointer (some ⟨b5, 0, Option.none⟩) ∧ ∃ xv, v'.heap[b5]? = some (.cells #[xv] 23 (0, 0)) ∧ Row w xv ((enclL o R n).map vs) ∧ KeepB w6.heap.size (fun b => b = b5) w6 v') ?_ ?_
 ·refine W_range (g := 125) (cap := #[.pointer (some ⟨w5.heap.size + 1, 0, Option.none⟩), .pointer (some ⟨w5.heap.size, 0, Option.none⟩)]) (vq0) rfl (downIt (C := fun b => b = b5) hbn hbz hn hz6.org (by omega) (by omega) hz.ol hok.len) (Keep.refl _ _) (Nat.le_refl _) (fun b hb => by omega)
   (fun x B args h => by obtain ⟨v, h, _⟩ := h; rw [h]; rfl)
   (fun pre B => KeepB w6.heap.size (fun b => b = b5) w6 B ∧ (∀ x ∈ pre, existsL o R x = true) ∧ ∃ xv, B.heap[b5]? = some (.cells #[xv] 23 (0, 0)) ∧ Row w xv ((pre.getLast?.getD []).map vs))
   (fun c pre B => c = .exit 0 ∧ KeepB w6.heap.size (fun b => b = b5) w6 B ∧ ∃ pre' x, pre = pre' ++ [x] ∧ existsL o R x = false ∧ (∀ y ∈ pre', existsL o R y = true) ∧ ∃ xv, B.heap[b5]? = some (.cells #[xv] 23 (0, 0)) ∧ Row w xv ((pre'.getLast?.getD []).map vs)) ?_ ?_ ?_ ?_ ?_ ?_
  ·rintro pre B B' ⟨hK, hp, xv, hb, hr⟩ hk
   exact ⟨hK.trans (hk.toB (by have := hK.size; omega) (fun i hi h => by unfold two at h; omega)), hp, xv, (hk.block _ (Array.getElem?_eq_some_iff.1 hb).1 (by unfold two; omega)).trans hb, hr⟩
  ·rintro c pre B B' ⟨rfl, hK, pre', x, rfl, h1, h2, xv, hb, hr⟩ hk
   exact ⟨rfl, hK.trans (hk.toB (by have := hK.size; omega) (fun i hi h => by unfold two at h; omega)), pre', x, rfl, h1, h2, xv, (hk.block _ (Array.getElem?_eq_some_iff.1 hb).1 (by unfold two; omega)).trans hb, hr⟩
  ·exact ⟨KeepB.refl _ _ _, fun x h => absurd h (by simp), _, hB6, by
    obtain ⟨a, c, e, h1, h2⟩ := hro4
    exact ⟨a, c, e, h1, fun j h => absurd h (by simp)⟩⟩
  ·rintro lp pre x suf B args hxs hszB ⟨hK, hp, xv0, hb, hr⟩ ⟨xv, rfl, hxr⟩
   have hxok : NmS x := hdm (by rw [hxs]; simp)
   refine rq ?_; intro gd K hgd hK
   try simp (disch := first | omega | assumption | rfl) only [↓reduceIte, go_sem, Nat.reduceLT, Nat.reduceEqDiff, Nat.reduceSub]
   refine hK _ _ ?_; clear hK hgd; clear K; try clear gd
   refine thenQ_normal ?_
   refine ⟨rfl, KeepB.refl _ _ _, fun Y hY => ?_⟩
   have hKY : KeepB w6.heap.size (fun b => b = b5) w6 Y := hK.trans (hY.toB (by have := hK.size; omega) (fun i hi h => by unfold two at h; omega))
   have hEY : Ext w4 w6 := hE46
   have hbY := (hY.block _ (Array.getElem?_eq_some_iff.1 hb).1 (by unfold two; omega)).trans hb
   have hAY : Y.heap[w.heap.size]? = some (.cells #[ov, lv] 34 (0, 0)) := (hKY.block _ (by omega) (by omega)).trans hA6
   have hwY : Ext w Y := keepB_ext (hE4.trans hE46) hKY (by omega) (fun b hb => by omega)
   have d2 := sv_cells (n := 2) (l := [ov, lv]) hAY rfl
   have hYs := hKY.size
   have hYB := hY.size
   have hzY := hz.ext hwY
   have hxY : Row Y xv (x.map vs) := hxr.ext hwY
   repeat refine c_r ?_
   refine rq ?_; intro gd K hgd hK
   try simp (disch := first | omega | assumption | rfl) only [↓reduceIte, go_sem, Nat.reduceLT, Nat.reduceEqDiff, Nat.reduceSub, d2]
   refine Fn.mono (Exists_ok hzY hxY hxok) ?_
   rintro _ Y2 ⟨rfl, hY2⟩
   try simp (disch := first | omega | assumption | rfl) only [↓reduceIte, go_sem, Nat.reduceLT, Nat.reduceEqDiff, Nat.reduceSub]
   refine hK _ _ ?_; clear hK hgd; clear K; try clear gd
   have hKY2 := hKY.trans (hY2.toB (n0 := w6.heap.size) (C := fun b => b = b5) (by omega) (fun _ _ h => h.elim))
   have hbY2 := Ext.at hY2 hbY
   repeat refine c_r ?_
   refine wc0 ?_ ?_
   ·intro hne
    simp only [Bool.not_eq_true'] at hne
    repeat refine c_r ?_
    exact ⟨⟨rfl, hKY2, pre, x, rfl, hne, hp, xv0, hbY2, hr⟩, hY2.toB (by omega) (fun _ _ h => h.elim)⟩
   ·intro hex
    simp only [Bool.not_eq_false'] at hex
    obtain ⟨ax, nx, cx, hxv⟩ : ∃ a n c, xv = .slice a n c := by
     obtain ⟨a, c, h, _⟩ := hxr
     exact ⟨_, _, _, h⟩
    repeat refine c_r ?_
    refine rq ?_; intro gd K hgd hK
    try simp (disch := first | omega | assumption | rfl) only [↓reduceIte, go_sem, Nat.reduceLT, Nat.reduceEqDiff, Nat.reduceSub]
    refine sv_at (P := Tryz.prog) (t := 23) (j := 0) (l := [xv0]) hbY2 (by simp) (by rw [hxv]; rfl) rfl rfl ?_
    intro z1 hz1' hbz1 hkz1
    try simp (disch := first | omega | assumption | rfl) only [↓reduceIte, go_sem, Nat.reduceLT, Nat.reduceEqDiff, Nat.reduceSub]
    refine hK _ _ ?_; clear hK hgd; clear K; try clear gd
    repeat refine c_r ?_
    have hkz := hkz1.toB (n0 := w6.heap.size) (C := fun b => b = b5) (by have := hY2.size; omega) (fun i _ h => h)
    refine ⟨⟨hKY2.trans hkz, fun y hy => ?_, xv, by simpa using hbz1, by simpa using hxr⟩, (hY2.toB (by omega) (fun _ _ h => h.elim)).trans (hkz1.toB (by have := hY2.size; omega) (fun i _ h => h))⟩
    rcases List.mem_append.1 hy with hy | hy
    ·exact hp y hy
    ·rw [List.mem_singleton.1 hy]; exact hex
  ·intro B hszB ⟨hK, hp, xv, hb, hr⟩ hD
   refine ⟨.inl rfl, rfl, hD, vq0, xv, hb, ?_, hK⟩
   have : enclL o R n = (downs o n).getLast?.getD [] := by unfold enclL; rw [hu, takeWhile_all hp]; rfl
   rw [this]; exact hr
  ·rintro c pre x0 suf B hszB hxs ⟨rfl, hK, pre', x, hpre, h1, h2, xv, hb, hr⟩ hD
   obtain ⟨rfl, h3⟩ := List.append_inj' hpre rfl
   have hx0 : x0 = x := by simpa using h3
   subst hx0
   refine W_exit ?_
   refine ⟨.inr rfl, rfl, hD, vq0, xv, hb, ?_, hK⟩
   have : enclL o R n = pre.getLast?.getD [] := by unfold enclL; rw [hu, takeWhile_at hxs h2 h1]; rfl
   rw [this]; exact hr
 ·rintro e σ' _ v' ⟨he, rfl, hD, h5, xv, hb, hr, hK⟩
  refine blockQ_either he ?_
  have hwv : Ext w v' := keepB_ext (hE4.trans hE46) hK (by omega) (fun b hb => by omega)
  have q5 : cellO v' (some ⟨b5, 0, Option.none⟩) = some xv := cellO_at hb rfl
  have hel : (enclL o R n).length ≤ 1000000000000 := by
   unfold enclL
   rw [hu]
   simp only [if_true]
   cases hq : ((downs o n).takeWhile (existsL o R)).getLast? with
   | none => simp
   | some x =>
    have h1 := List.mem_of_getLast? hq
    exact (hdm ((List.takeWhile_sublist _).subset h1)).len
  repeat refine c_r ?_
  refine rq ?_; intro gd K hgd hK
  try simp (disch := first | omega | assumption | rfl) only [↓reduceIte, go_sem, Nat.reduceLT, Nat.reduceEqDiff, Nat.reduceSub, h5, q5]
  refine Fn.mono (CloneS_ok (hr.ext hwv) hel) ?_
  rintro u Y2 ⟨hou, hY2⟩
  try simp (disch := first | omega | assumption | rfl) only [↓reduceIte, go_sem, Nat.reduceLT, Nat.reduceEqDiff, Nat.reduceSub]
  obtain ⟨au, cu, hu'⟩ := hou.slice
  have hur := hou.row
  have hub := hou.blk
  rw [hu'] at hur hub
  rw [List.length_map] at hu' hur hub
  rw [hu']
  obtain ⟨_, _, he, hcc, hgg⟩ := id hur
  injection he with e1 e2 e3
  subst e1 e3
  rw [List.length_map] at hcc
  refine Fn.mono (P_cs.Clip_ok hcc) ?_
  rintro _ y0 ⟨rfl, hy0⟩
  try simp (disch := first | omega | assumption | rfl) only [↓reduceIte, go_sem, Nat.reduceLT, Nat.reduceEqDiff, Nat.reduceSub]
  rw [hy0]
  clear hy0 y0
  refine hK _ _ ?_; clear hK hgd; clear K; try clear gd
  repeat refine c_r ?_
  have hrc : Row Y2 (.slice au (enclL o R n).length (enclL o R n).length) ((enclL o R n).map vs) := ⟨au, (enclL o R n).length, by rw [List.length_map], by rw [List.length_map]; exact Nat.le_refl _, hgg⟩
  have s7 := hK.size
  refine ret_mark (v := .slice au (enclL o R n).length (enclL o R n).length) (.inr rfl) (by rfl) Tryz.ntmps134 (vq0) (Ext.at hY2 hD) ?_
  intro Z hkZ hsZ
  have hlt : w6.heap.size < v'.heap.size := (Array.getElem?_eq_some_iff.1 hD).1
  exact ⟨hrc.keepB hkZ (hub.same.mono (B' := w6.heap.size + 1) (by omega)) (fun b hb _ => by omega), Keep.to_ext (hwv.trans hY2) rfl (fun b hb => by omega) hkZ⟩
theorem encl_len {o n : Nm} {R : List RecL} : (enclL o R n).length ≤ n.length := by
 unfold enclL
 split
 ·cases hq : ((downs o n).takeWhile (existsL o R)).getLast? with
  | none => simp
  | some x =>
   have h1 := (List.takeWhile_sublist _).subset (List.mem_of_getLast? hq)
   unfold downs at h1
   split at h1
   ·obtain ⟨i, hi, h⟩ := downF_mem.1 h1
    simp only [Option.getD_some]
    rw [h]; simp
   ·cases h1
 ·simp
theorem encl_lb {o n : Nm} {R : List RecL} (hn : LB n) : LB (enclL o R n) := by
 unfold enclL
 split
 ·cases hq : ((downs o n).takeWhile (existsL o R)).getLast? with
  | none => intro l hl; cases hl
  | some x =>
   have h1 := (List.takeWhile_sublist _).subset (List.mem_of_getLast? hq)
   unfold downs at h1
   split at h1
   ·obtain ⟨i, hi, h⟩ := downF_mem.1 h1
    simp only [Option.getD_some]
    rw [h]; exact hn.drop i
   ·cases h1
 ·intro l hl; cases hl
theorem star_ok {o n : Nm} {R : List RecL} (h : NmS n) (hl : n.length ≤ 1000000) : NmS (sourceN o R n) := by
 refine ⟨fun l hl => ?_, ?_⟩
 ·rcases List.mem_cons.1 hl with rfl | hl
  ·decide
  ·exact encl_lb h.lb l hl
 ·have := encl_len (o := o) (R := R) (n := n)
  unfold sourceN
  rw [List.length_cons]; omega
theorem Source_ok {w0 w : World} {ov lv nv : Value} {o n : Nm} {R : List RecL} (hz : ZnAt w0 w ov lv o R) (hn : Row w nv (n.map vs)) (hok : NmS n) (hnl : n.length ≤ 1000000) :
  Fn Tryz.prog 65 #[.agg #[ov, lv], nv] w (fun v w' => Ext w w' ∧ ∃ sv, v = .tuple #[sv, .bool (sourceL o R n).isSome] ∧ Row w' sv (((sourceL o R n).getD []).map vs)) := by
 obtain ⟨ao, co, hov, _⟩ := id hz.org
 obtain ⟨al, cl, hlv, _⟩ := hz.recs.open
 have hst := star_ok (o := o) (R := R) hok hnl
 rw [hov, hlv]
 refine enter Tryz.func65 Tryz.ntmps65 rfl rfl ?_
 repeat refine c_r ?_
 refine rg0 ?_
 repeat refine c_r ?_
 rw [← hov, ← hlv]
 refine W_alloc1 ?_
 intro w1 hE1 hs1 hA
 have d2 := sv_cells (n := 2) (l := [ov, lv]) hA rfl
 have hz1 := hz.ext hE1
 refine rq ?_; intro gd K hgd hK
 try simp (disch := first | omega | assumption | rfl) only [↓reduceIte, go_sem, Nat.reduceLT, Nat.reduceEqDiff, Nat.reduceSub, d2]
 refine Fn.mono (Encloser_ok hz1 (hn.ext hE1) hok) ?_
 rintro ev w2 ⟨hev, hE2⟩
 try simp (disch := first | omega | assumption | rfl) only [↓reduceIte, go_sem, Nat.reduceLT, Nat.reduceEqDiff, Nat.reduceSub]
 refine Fn.mono (Child_ok w2 ev starL (enclL o R n) hev (by have := encl_len (o := o) (R := R) (n := n); omega)) ?_
 rintro sv w3 ⟨hsv, hE3⟩
 try simp (disch := first | omega | assumption | rfl) only [↓reduceIte, go_sem, Nat.reduceLT, Nat.reduceEqDiff, Nat.reduceSub]
 have hsr : Row w3 sv ((sourceN o R n).map vs) := hsv.1
 obtain ⟨as1, cs1, hsv', _⟩ := id hsr
 have hB3 := new_block w3 (.cells #[.slice Option.none 0 0] 23 (0, 0))
 have hE4 := Ext.alloc w3 (.cells #[.slice Option.none 0 0] 23 (0, 0))
 have hs4 := new_size w3 (.cells #[.slice Option.none 0 0] 23 (0, 0))
 revert hB3 hE4 hs4
 generalize w3.alloc (.cells #[.slice Option.none 0 0] 23 (0, 0)) = w4
 intro hB3 hE4 hs4
 refine sv_at (P := Tryz.prog) (t := 23) (j := 0) (l := [.slice Option.none 0 0]) hB3 (by simp) (by rw [hsv']; rfl) rfl rfl ?_
 intro w5 hs5 hB5 hk5
 try simp (disch := first | omega | assumption | rfl) only [↓reduceIte, go_sem, Nat.reduceLT, Nat.reduceEqDiff, Nat.reduceSub]
 refine hK _ _ ?_; clear hK hgd; clear K; try clear gd
 simp only [List.set_cons_zero] at hB5
 have hE35 : Ext w3 w5 := Keep.to_ext hE4 rfl (fun b hb => by omega) hk5
 have hE15 := (hE2.trans hE3).trans hE35
 have hz5 := hz1.ext hE15
 have p1 : cellO w5 (some ⟨w.heap.size, 1, Option.none⟩) = some lv := cellO_at (Ext.at hE15 hA) rfl
 have q1 : cellO w5 (some ⟨w3.heap.size, 0, Option.none⟩) = some sv := cellO_at hB5 rfl
 repeat refine c_r ?_
 refine rq ?_; intro gd K hgd hK
 try simp (disch := first | omega | assumption | rfl) only [↓reduceIte, go_sem, Nat.reduceLT, Nat.reduceEqDiff, Nat.reduceSub, p1, Nat.zero_add]
 refine Fn.mono (Contains_ok (cap := [.pointer (some ⟨w3.heap.size, 0, Option.none⟩)]) hz5.recs (tell_Source hz5.e0 hB5 (hsr.ext hE35) hst hz.ok) hz.rl) ?_
 rintro _ w6 ⟨rfl, hE6⟩
 try simp (disch := first | omega | assumption | rfl) only [↓reduceIte, go_sem, Nat.reduceLT, Nat.reduceEqDiff, Nat.reduceSub]
 refine hK _ _ ?_; clear hK hgd; clear K; try clear gd
 have hE := (hE1.trans hE15).trans hE6
 have q1' := cellO_ext hE6 q1
 have hany : (R.any fun r => decide (foldN r.owner = foldN (sourceN o R n))) = ownsL R (sourceN o R n) := rfl
 rw [hany]
 repeat refine c_r ?_
 refine wc0 ?_ ?_
 ·intro h
  simp only [Bool.not_eq_true'] at h
  repeat refine c_r ?_
  refine rg0 ?_
  repeat refine c_r ?_
  have hso : sourceL o R n = Option.none := by unfold sourceL; rw [h]; rfl
  refine ret_any (.inr rfl) Tryz.ntmps65 rfl (res_tmp (v := .slice Option.none 0 0) (vr0) (res_tmp (v := .bool false) (vr0) res_nil)) ?_
  exact ⟨hE, _, by rw [hso]; rfl, by rw [hso]; exact ⟨Option.none, 0, rfl, Nat.le_refl _, fun j h => absurd h (by simp)⟩⟩
 ·intro h
  simp only [Bool.not_eq_false'] at h
  repeat refine c_r ?_
  refine rg1 q1' ?_
  repeat refine c_r ?_
  have hso : sourceL o R n = some (sourceN o R n) := by unfold sourceL; rw [h]; rfl
  refine ret_any (.inr rfl) Tryz.ntmps65 rfl (res_tmp (v := sv) (vr0) (res_tmp (v := .bool true) (vr0) res_nil)) ?_
  exact ⟨hE, _, by rw [hso]; rfl, by rw [hso]; exact hsr.ext (hE35.trans hE6)⟩
theorem Glue_ok {w0 w : World} {ov lv hv : Value} {o h : Nm} {R : List RecL} (hz : ZnAt w0 w ov lv o R) (hn : Row w hv (h.map vs)) (hok : NmS h) :
  Fn Tryz.prog 130 #[.agg #[ov, lv], hv] w (fun v w' => Ext w w' ∧ Rows 5 (DatAt w0) w' v (glueL R h) ∧ BlkB w.heap.size w' v) := by
 obtain ⟨ao, co, hov, _⟩ := id hz.org
 obtain ⟨al, cl, hlv, _⟩ := hz.recs.open
 rw [hov, hlv]
 refine enter Tryz.func130 Tryz.ntmps130 rfl rfl ?_
 repeat refine c_r ?_
 refine rg0 ?_
 repeat refine c_r ?_
 rw [← hov, ← hlv]
 refine W_alloc1 ?_
 intro w1 hE1 hs1 hA
 refine rg0 ?_
 repeat refine c_r ?_
 refine rq ?_; intro gd K hgd hK
 try simp (disch := first | omega | assumption | rfl) only [↓reduceIte, go_sem, Nat.reduceLT, Nat.reduceEqDiff, Nat.reduceSub]
 refine bs_two (z := vi 0) (by rfl) (by rfl) (by rfl) (by rfl) (by rfl) (by rfl) ?_
 intro w2 hE2 hs2 ho2
 try simp (disch := first | omega | assumption | rfl) only [↓reduceIte, go_sem, Nat.reduceLT, Nat.reduceEqDiff, Nat.reduceSub]
 refine hK _ _ ?_; clear hK hgd; clear K; try clear gd
 have hro := ho2.row
 have hE12 := hE1.trans hE2
 repeat refine c_r ?_
 refine W_loop (fun m σ ds A => ds = [] ∧ ∃ (i : Nat) (gv : Value), i + m = 2 ∧ σ 12 = vi i ∧ σ 11 = vi (2 : Nat) ∧ σ 10 = .slice (some ⟨w1.heap.size, 0, Option.none⟩) 2 2 ∧ σ 1 = hv ∧ σ 2 = .pointer (some ⟨w.heap.size, 0, Option.none⟩) ∧ σ 5 = gv ∧ Ext w2 A ∧ Owns 5 (DatAt w0) w2.heap.size A 59 gv ((([1, 28] : List Int).take i).flatMap (datC R h))) 2 ?_ ?_
 ·exact ⟨rfl, 0, .slice Option.none 0 0, by omega, vr0, vr0, vq0, vq0, vq0, vq0, Keep.refl _ _, Owns.nil _ _ _ _ _⟩
 rintro m σ ds A ⟨rfl, i, gv, him, h12, h11, h10, h1, h2, h5, hEA, hgv⟩
 have hE2A := hE12.trans hEA
 have hzA := hz.ext hE2A
 repeat refine c_r ?_
 refine rq ?_; intro gd K hgd hK; simp (disch := first | omega | assumption | rfl) only [↓reduceIte, go_sem, Nat.reduceLT, Nat.reduceEqDiff, Nat.reduceSub, h12, h11]; refine hK _ _ ?_; clear hK hgd; clear K gd
 repeat refine c_r ?_
 refine wc0 ?_ ?_
 ·intro hlt
  simp only [decide_eq_true_eq] at hlt
  have hi2 : i < 2 := by omega
  have hi0 : (0 : Int) ≤ (i : Int) := by omega
  have hi1 : (i : Int) < ((2 : Nat) : Int) := by omega
  have hi1' : (i : Int) + 1 = ((i + 1 : Nat) : Int) := by push_cast; rfl
  obtain ⟨t, ht⟩ : ∃ t, ([1, 28] : List Int)[i]'(by simpa using hi2) = t := ⟨_, rfl⟩
  have hcell : cellO A (some ⟨w1.heap.size, i, Option.none⟩) = some (vi t) := by
   obtain ⟨a, c, e, hc, hg⟩ := hro.ext hEA
   injection e with e1 e2 e3
   have := hg i (by simpa using hi2)
   rw [← e1, adr_some, Nat.zero_add] at this
   rw [this, ← ht]
   have hcase : i = 0 ∨ i = 1 := by omega
   rcases hcase with rfl | rfl <;> rfl
  have hfl : (([1, 28] : List Int).take (i + 1)).flatMap (datC R h) = (([1, 28] : List Int).take i).flatMap (datC R h) ++ datC R h t := by
   rw [take_succ' (by simpa using hi2), List.flatMap_append, ht]; simp
  have p1 : cellO A (some ⟨w.heap.size, 1, Option.none⟩) = some lv := cellO_at (Ext.at (hE2.trans hEA) hA) rfl
  repeat refine c_r ?_
  refine rq ?_; intro gd K hgd hK
  try simp (disch := first | omega | assumption | rfl) only [↓reduceIte, go_sem, Nat.reduceLT, Nat.reduceEqDiff, Nat.reduceSub, h10, h12, hi0, hi1, hcell, Nat.zero_add]
  refine hK _ _ ?_; clear hK hgd; clear K; try clear gd
  repeat refine c_r ?_
  refine rq ?_; intro gd K hgd hK
  try simp (disch := first | omega | assumption | rfl) only [↓reduceIte, go_sem, Nat.reduceLT, Nat.reduceEqDiff, Nat.reduceSub, h1, h2, p1, Nat.zero_add]
  refine Fn.mono (Of_ok hzA.e0 hzA.recs (hn.ext hE2A) hok.lb (by have := hok.len; omega) hz.ok hz.rl) ?_
  rintro _ A1 ⟨hE3, ow, ty, tl, dv, rfl, how, _, hdv, hdb⟩
  try simp (disch := first | omega | assumption | rfl) only [↓reduceIte, go_sem, Nat.reduceLT, Nat.reduceEqDiff, Nat.reduceSub]
  have hB3 := new_block A1 (.cells #[.slice Option.none 0 0, vi 0, v32 0, .slice Option.none 0 0] 209 (0, 0))
  have hE4 := Ext.alloc A1 (.cells #[.slice Option.none 0 0, vi 0, v32 0, .slice Option.none 0 0] 209 (0, 0))
  have hs4 := new_size A1 (.cells #[.slice Option.none 0 0, vi 0, v32 0, .slice Option.none 0 0] 209 (0, 0))
  revert hB3 hE4 hs4
  generalize A1.alloc (.cells #[.slice Option.none 0 0, vi 0, v32 0, .slice Option.none 0 0] 209 (0, 0)) = A2
  intro hB3 hE4 hs4
  obtain ⟨ad, cd, hdv', _⟩ := hdv.open
  refine sv_all (P := Tryz.prog) (t := 209) (l := [ow, vi ty, v32 tl, dv]) hB3 rfl (fun v h => by
   simp at h
   rcases h with rfl | rfl | rfl | rfl
   ·exact how
   ·rfl
   ·rfl
   ·rw [hdv']; rfl) rfl rfl ?_
  intro A3 hs5 hB5 hk5
  try simp (disch := first | omega | assumption | rfl) only [↓reduceIte, go_sem, Nat.reduceLT, Nat.reduceEqDiff, Nat.reduceSub]
  refine hK _ _ ?_; clear hK hgd; clear K; try clear gd
  have hE5 : Ext A1 A3 := Keep.to_ext hE4 rfl (fun b hb => by omega) hk5
  have hEAA := (hEA.trans hE3).trans hE5
  have q3 : cellO A3 (some ⟨A1.heap.size, 3, Option.none⟩) = some dv := sv_get hB5 rfl
  repeat refine c_r ?_
  refine rq ?_; intro gd K hgd hK
  try simp (disch := first | omega | assumption | rfl) only [↓reduceIte, go_sem, Nat.reduceLT, Nat.reduceEqDiff, Nat.reduceSub, h5, q3, Nat.zero_add]
  have hlen1 : ∀ u : Int, (datC R h u).length ≤ 1000000000 := fun u => by
   have h1 := canonL_len (R.filter (isL h u))
   have h2 := List.length_filter_le (isL h u) R
   have h3 := hz.rl
   unfold datC ofC
   rw [List.length_map]; omega
  have hlen2 : ((([1, 28] : List Int).take i).flatMap (datC R h)).length ≤ 2000000000 := by
   have a1 := hlen1 1
   have a2 := hlen1 28
   have hcase : i = 0 ∨ i = 1 := by omega
   rcases hcase with rfl | rfl
   ·simp
   ·simp; omega
  refine op_appR (dat_shape w0) (((hgv.ext hE3).ext hE5)) (hdv.ext hE5) (by rfl) (by rfl) (by rfl) (by rfl) (by rfl) (by rfl) (by decide) (by rfl) (by rfl) (by have := hlen1 t; unfold datC at this hlen2 ⊢; omega) (by decide) hEAA.size ?_
  intro gv' A4 hgv' hE6 _ _
  try simp (disch := first | omega | assumption | rfl) only [↓reduceIte, go_sem, Nat.reduceLT, Nat.reduceEqDiff, Nat.reduceSub]
  refine hK _ _ ?_; clear hK hgd; clear K; try clear gd
  repeat refine c_r ?_
  refine rg2 h12 hi1' ?_
  repeat refine c_r ?_
  exact ⟨m - 1, by omega, rfl, i + 1, gv', by omega, vq0, by simp only [↓reduceIte, go_sem, Nat.reduceLT, Nat.reduceEqDiff, Nat.reduceSub, h11], (vq1 h10), (vq1 h1), (vq1 h2), vq0, hE6 w2 hEAA (Nat.le_refl _), by rw [hfl]; exact hgv'⟩
 ·intro hge
  simp only [decide_eq_false_iff_not] at hge
  have hi : i = 2 := by omega
  subst hi
  have hgl : (([1, 28] : List Int).take 2).flatMap (datC R h) = glueL R h := by simp [glueL]
  rw [hgl] at hgv
  obtain ⟨ag, cg, hgv', hcg, _⟩ := hgv.rows.open
  rw [hgv'] at hgv
  repeat refine c_r ?_
  refine rq ?_; intro gd K hgd hK
  try simp (disch := first | omega | assumption | rfl) only [↓reduceIte, go_sem, Nat.reduceLT, Nat.reduceEqDiff, Nat.reduceSub, h5]
  rw [hgv']
  refine Fn.mono (P_cd.Clip_ok hcg) ?_
  rintro _ y0 ⟨rfl, hy0⟩
  try simp (disch := first | omega | assumption | rfl) only [↓reduceIte, go_sem, Nat.reduceLT, Nat.reduceEqDiff, Nat.reduceSub]
  rw [hy0]
  clear hy0 y0
  refine hK _ _ ?_; clear hK hgd; clear K; try clear gd
  repeat refine c_r ?_
  refine rt0 Tryz.ntmps130 ?_
  have h3 := hgv.rows.take (m := (glueL R h).length) (c2 := (glueL R h).length) (Nat.le_refl _) (Nat.le_refl _)
  rw [List.take_length] at h3
  exact ⟨hE2A, h3, hgv.blk.same.mono hE12.size⟩
def errL (l : Lab) : Int := if l = [] then 8 else if 63 < l.length then 3 else 0
def lenN (n : Nm) : Nat := 1 + (n.map fun l => 1 + l.length).sum
def checkN (n : Nm) : Int := match n.find? (fun l => decide (errL l ≠ 0)) with
 | some l => errL l
 | Option.none => if 255 < lenN n then 3 else 0
theorem LCheck_ok (w : World) (l : Lab) (hl : l.length ≤ 9000000000000000000) : Fn Tryz.prog 168 #[vs l] w (fun v w' => v = vi (errL l) ∧ Ext w w') := by
 refine enter Tryz.func168 Tryz.ntmps168 rfl rfl ?_
 repeat refine c_r ?_
 refine rg0 ?_
 repeat refine c_r ?_
 refine rg0 ?_
 repeat refine c_r ?_
 refine wc0 ?_ ?_
 ·intro h
  simp only [decide_eq_true_eq] at h
  repeat (first | refine c_r ?_ | refine rg0 ?_)
  refine rt0 Tryz.ntmps168 ?_
  exact ⟨by unfold errL; rw [if_pos h], Keep.refl _ _⟩
 intro h
 simp only [decide_eq_false_iff_not] at h
 repeat refine c_r ?_
 refine rg0 ?_
 repeat refine c_r ?_
 refine wc0 ?_ ?_
 ·intro h2
  simp only [decide_eq_true_eq] at h2
  repeat (first | refine c_r ?_ | refine rg0 ?_)
  refine rt0 Tryz.ntmps168 ?_
  exact ⟨by unfold errL; rw [if_neg h, if_pos (by omega)], Keep.refl _ _⟩
 ·intro h2
  simp only [decide_eq_false_iff_not] at h2
  repeat (first | refine c_r ?_ | refine rg0 ?_)
  refine rt0 Tryz.ntmps168 ?_
  exact ⟨by unfold errL; rw [if_neg h, if_neg (by omega)], Keep.refl _ _⟩
theorem RCheckLabel_ok (w : World) (l : Lab) (hl : l.length ≤ 9000000000000000000) : Fn Tryz.prog 123 #[vs l] w (fun v w' => v = vi (errL l) ∧ Ext w w') := by
 refine enter Tryz.func123 Tryz.ntmps123 rfl rfl ?_
 repeat refine c_r ?_
 refine rg0 ?_
 repeat refine c_r ?_
 refine rg0 ?_
 repeat refine c_r ?_
 refine wc0 ?_ ?_
 ·intro h
  simp only [decide_eq_true_eq] at h
  repeat (first | refine c_r ?_ | refine rg0 ?_)
  refine rt0 Tryz.ntmps123 ?_
  exact ⟨by unfold errL; rw [if_pos h], Keep.refl _ _⟩
 intro h
 simp only [decide_eq_false_iff_not] at h
 repeat refine c_r ?_
 refine rg0 ?_
 repeat refine c_r ?_
 refine wc0 ?_ ?_
 ·intro h2
  simp only [decide_eq_true_eq] at h2
  repeat (first | refine c_r ?_ | refine rg0 ?_)
  refine rt0 Tryz.ntmps123 ?_
  exact ⟨by unfold errL; rw [if_neg h, if_pos (by omega)], Keep.refl _ _⟩
 ·intro h2
  simp only [decide_eq_false_iff_not] at h2
  repeat (first | refine c_r ?_ | refine rg0 ?_)
  refine rt0 Tryz.ntmps123 ?_
  exact ⟨by unfold errL; rw [if_neg h, if_neg (by omega)], Keep.refl _ _⟩
theorem sum_take {n : Nm} {i : Nat} (hi : i < n.length) (f : Lab → Nat) : ((n.take (i + 1)).map f).sum = ((n.take i).map f).sum + f n[i] := by
 rw [take_succ' hi, List.map_append, List.sum_append, List.map_cons, List.map_nil, List.sum_cons, List.sum_nil, Nat.add_zero]
theorem sum_bound : ∀ (k : Nm), (∀ l ∈ k, l.length ≤ 1000000000) → (k.map fun l => 1 + l.length).sum ≤ 1000000001 * k.length
 | [], _ => by simp
 | x :: k, h => by
  have h3 := sum_bound k (fun l hl => h l (List.mem_cons_of_mem _ hl))
  have h4 := h x (List.mem_cons_self ..)
  rw [List.map_cons, List.sum_cons, List.length_cons]; omega
theorem RLen_ok (w : World) (nv : Value) (n : Nm) (hn : Row w nv (n.map vs)) (hl : ∀ l ∈ n, l.length ≤ 1000000000) (hnl : n.length ≤ 1000000000) :
  Fn Tryz.prog 124 #[nv] w (fun v w' => v = vi (lenN n) ∧ Ext w w') := by
 obtain ⟨an, cn, rfl, hcn, hgn⟩ := hn
 simp only [List.length_map] at hcn hgn
 rw [List.length_map]
 refine enter Tryz.func124 Tryz.ntmps124 rfl rfl ?_
 repeat refine c_r ?_
 refine rg0 ?_
 repeat refine c_r ?_
 refine rg0 ?_
 repeat refine c_r ?_
 refine rg0 ?_
 repeat refine c_r ?_
 refine W_loop (fun m σ ds A => ds = [] ∧ ∃ (i : Nat), i + m = n.length ∧ σ 4 = vi i ∧ σ 0 = .slice an n.length cn ∧ σ 3 = vi (lenN (n.take i)) ∧ Ext w A) n.length ?_ ?_
 ·exact ⟨rfl, 0, by omega, vr0, vq0, vr0, Keep.refl _ _⟩
 rintro m σ ds A ⟨rfl, i, him, h4, h0, h3, hEA⟩
 repeat refine c_r ?_
 refine rg2 h4 h0 ?_
 repeat refine c_r ?_
 refine wc0 ?_ ?_
 ·intro hlt
  simp only [decide_eq_true_eq] at hlt
  have hi : i < n.length := by omega
  have hi0 : (0 : Int) ≤ (i : Int) := by omega
  have hi1 : (i : Int) < (n.length : Int) := by omega
  have hi1' : (i : Int) + 1 = ((i + 1 : Nat) : Int) := by push_cast; rfl
  have hg := cellO_ext hEA (hgn i (by simpa using hi))
  rw [List.getElem_map] at hg
  obtain ⟨xn, rfl⟩ := Option.isSome_iff_exists.1 (some_of_cellO hg)
  have hb := sum_bound (n.take i) (fun l hl' => hl l (List.mem_of_mem_take hl'))
  rw [List.length_take] at hb
  have hb2 := hl n[i] (List.getElem_mem hi)
  have hs : ((n.take (i + 1)).map fun l => 1 + l.length).sum = ((n.take i).map fun l => 1 + l.length).sum + (1 + n[i].length) := sum_take hi _
  have hlen : ((lenN (n.take i) : Nat) : Int) + 1 + ((n[i]).length : Int) = ((lenN (n.take (i + 1)) : Nat) : Int) := by unfold lenN; rw [hs]; omega
  have hln : lenN (n.take i) ≤ 2000000000000000000 := by
   unfold lenN
   have : min i n.length ≤ 1000000000 := by omega
   omega
  repeat refine c_r ?_
  refine rg7 h0 h3 h4 hi0 hi1 hg hlen ?_
  repeat refine c_r ?_
  refine rg2 h4 hi1' ?_
  repeat refine c_r ?_
  exact ⟨m - 1, by omega, rfl, i + 1, by omega, vq0, (vq1 h0), vq0, hEA⟩
 ·intro hge
  simp only [decide_eq_false_iff_not] at hge
  rw [List.take_of_length_le (by omega)] at h3
  repeat refine c_r ?_
  refine rg1 h3 ?_
  repeat refine c_r ?_
  refine rt1 h3 Tryz.ntmps124 ?_
  exact ⟨rfl, hEA⟩
def encL (x : Lab) (_ : World) (args : Array Value) : Prop := args = #[vs x]
theorem revDrop {n : Nm} {k : Nat} (hk : k < n.length) : (n.take (k + 1)).reverse = n[k] :: (n.take k).reverse := by
 rw [take_succ' hk]; simp
theorem labelsIt {W0 : World} {C : Nat → Prop} {bn : Nat} {nv : Value} {n : Nm} (hbn : W0.heap[bn]? = some (.cells #[nv] 23 (0, 0))) (hn : Row W0 nv (n.map vs)) (hC1 : ¬ C bn) (hCw : n ≠ [] → ∀ b, C b → b < W0.heap.size → ∀ a m c, nv = .slice (some a) m c → a.block ≠ b) (hnl : n.length ≤ 1000000000000)
  (hnb : n ≠ [] → ∀ a m c, nv = .slice (some a) m c → a.block < W0.heap.size) :
  Iter Tryz.prog 234 #[.pointer (some ⟨bn, 0, Option.none⟩)] W0 W0.heap.size C n.reverse encL := by
 intro lp J Jx W hW hnW hJ hJx hY h0
 obtain ⟨an, cn, rfl, hcn, hgn⟩ := hn
 simp only [List.length_map] at hcn hgn hbn hCw hnb
 have hln := (Array.getElem?_eq_some_iff.1 hbn).1
 have p0 : cellO W (some ⟨bn, 0, Option.none⟩) = some (.slice an n.length cn) := cellO_ext hW (cellO_at hbn rfl)
 refine enter Tryz.func234 Tryz.ntmps234 rfl rfl ?_
 repeat refine c_r ?_
 refine rg2 p0 Nat.add_zero ?_
 repeat refine c_r ?_
 refine W_loop (fun m σ ds v => ds = [] ∧ ∃ (pre : List Lab) (k : Nat), n.reverse = pre ++ (n.take k).reverse ∧ k ≤ m ∧ k ≤ n.length ∧ σ 3 = vi ((k : Int) - 1) ∧ σ 0 = .func (.yield lp) #[] #[] ∧ σ 1 = .pointer (some ⟨bn, 0, Option.none⟩) ∧ J pre v ∧ KeepB W0.heap.size C W v) n.length ?_ ?_
 ·exact ⟨rfl, [], n.length, by simp, Nat.le_refl _, Nat.le_refl _, vq0, vq0, vq0, h0, KeepB.refl _ _ _⟩
 rintro m σ ds v ⟨rfl, pre, k, hd, hkm, hkn, h3, hs0, hs1, hjj, hKB⟩
 have p1 : cellO v (some ⟨bn, 0, Option.none⟩) = some (.slice an n.length cn) := cell_keepB hKB hln hC1 p0
 repeat refine c_r ?_
 refine rg1 h3 ?_
 repeat refine c_r ?_
 refine wc0 ?_ ?_
 ·intro hge
  simp only [decide_eq_true_eq, ge_iff_le] at hge
  obtain ⟨j, rfl⟩ : ∃ j, k = j + 1 := ⟨k - 1, by omega⟩
  have hj : j < n.length := by omega
  have ej : ((j + 1 : Nat) : Int) - 1 = (j : Int) := by omega
  rw [ej] at h3
  have hj0 : (0 : Int) ≤ (j : Int) := by omega
  have hj1 : (j : Int) < (n.length : Int) := by omega
  have hg := hgn j (by simpa using hj)
  rw [List.getElem_map] at hg
  obtain ⟨xn, rfl⟩ := Option.isSome_iff_exists.1 (some_of_cellO hg)
  have hnn : n ≠ [] := List.length_pos_iff.1 (by omega)
  have hgv : cellO v (adr (some xn) j) = some (vs n[j]) := by
   have hb := hnb hnn xn _ _ rfl
   have h1 := cellO_ext hW hg
   refine cell_keepB hKB (by rw [block_add]; exact hb) (fun hc => ?_) h1
   rw [block_add] at hc
   exact hCw hnn _ hc hb xn _ _ rfl rfl
  have hxs : n.reverse = pre ++ n[j] :: (n.take j).reverse := by rw [hd, revDrop hj]
  repeat refine c_r ?_
  refine rq ?_; intro gd K hgd hK
  try simp (disch := first | omega | assumption | rfl) only [↓reduceIte, go_sem, Nat.reduceLT, Nat.reduceEqDiff, Nat.reduceSub, h3, hs0, hs1, p1, hj0, hj1, hgv]
  refine Yld.mono (hY pre n[j] (n.take j).reverse v _ hxs hjj hKB rfl) ?_
  rintro u x (⟨rfl, hj', hk'⟩ | ⟨rfl, hjx⟩)
  ·try simp (disch := first | omega | assumption | rfl) only [↓reduceIte, go_sem, Nat.reduceLT, Nat.reduceEqDiff, Nat.reduceSub]
   refine hK _ _ ?_; clear hK hgd; clear K; try clear gd
   repeat refine c_r ?_
   refine wc0 ?_ ?_
   ·intro h; simp at h
   ·intro _
    repeat refine c_r ?_
    refine rg1 h3 ?_
    refine thenQ_normal ?_
    exact ⟨m - 1, by omega, rfl, pre ++ [n[j]], j, by rw [hxs]; simp, by omega, by omega, vq0, (vq1 hs0), (vq1 hs1), hj', hKB.trans hk'⟩
  ·try simp (disch := first | omega | assumption | rfl) only [↓reduceIte, go_sem, Nat.reduceLT, Nat.reduceEqDiff, Nat.reduceSub]
   refine hK _ _ ?_; clear hK hgd; clear K; try clear gd
   repeat refine c_r ?_
   refine wc0 ?_ ?_
   ·intro _
    repeat refine c_r ?_
    refine ret_none (by simp) rfl (.inr ⟨_, _, _, hxs, hjx⟩)
   ·intro h; simp at h
 ·intro hge
  simp only [decide_eq_false_iff_not, ge_iff_le] at hge
  have hk0 : k = 0 := by omega
  subst hk0
  repeat refine c_r ?_
  refine ret_none (by simp) rfl (.inl ?_)
  rw [hd]; simpa using hjj
theorem labels_ok {w : World} {nv : Value} (hn : ∃ a n c, nv = .slice a n c) :
  Fn Tryz.prog 206 #[nv] w (fun v w' => v = .func (.func 234) #[] #[.pointer (some ⟨w.heap.size, 0, Option.none⟩)] ∧ Ext w w' ∧ w'.heap.size = w.heap.size + 1 ∧ w'.heap[w.heap.size]? = some (.cells #[nv] 23 (0, 0))) := by
 obtain ⟨an, nn, cn, rfl⟩ := hn
 refine enter Tryz.func206 Tryz.ntmps206 rfl rfl ?_
 repeat refine c_r ?_
 refine rg0 ?_
 repeat refine c_r ?_
 refine W_alloc1 ?_
 intro w1 hE1 hs1 hA
 refine rg0 ?_
 repeat refine c_r ?_
 refine rt0 Tryz.ntmps206 ?_
 exact ⟨rfl, hE1, hs1, hA⟩
theorem row_lt {w : World} {nv : Value} {l : List Value} (h : Row w nv l) (h0 : l ≠ []) : ∀ a m c, nv = .slice (some a) m c → a.block < w.heap.size := by
 intro a m c hv
 obtain ⟨a', c', e, hc, hg⟩ := h
 rw [hv] at e
 injection e with e1
 have h1 := hg 0 (List.length_pos_iff.2 h0)
 rw [← e1] at h1
 have := cell_lt (show w.cell? (a.add 0) = some _ from h1)
 rwa [block_add] at this
theorem NLen_ok (w : World) (nv : Value) (n : Nm) (hn : Row w nv (n.map vs)) (hl : ∀ l ∈ n, l.length ≤ 1000000000) (hnl : n.length ≤ 1000000000) :
  Fn Tryz.prog 169 #[nv] w (fun v w' => v = vi (lenN n) ∧ Ext w w') := by
 have hn0 := hn
 obtain ⟨an, cn, hnv, _⟩ := id hn
 rw [hnv]
 refine enter Tryz.func169 Tryz.ntmps169 rfl rfl ?_
 repeat refine c_r ?_
 refine rg0 ?_
 repeat refine c_r ?_
 rw [← hnv]
 refine rq ?_; intro gd K hgd hK
 try simp (disch := first | omega | assumption | rfl) only [↓reduceIte, go_sem, Nat.reduceLT, Nat.reduceEqDiff, Nat.reduceSub]
 have hB3 := new_block w (.cells #[vi 0] 3 (0, 0))
 have hE4 := Ext.alloc w (.cells #[vi 0] 3 (0, 0))
 have hs4 := new_size w (.cells #[vi 0] 3 (0, 0))
 revert hB3 hE4 hs4
 generalize w.alloc (.cells #[vi 0] 3 (0, 0)) = w1
 intro hB3 hE4 hs4
 refine sv_at (P := Tryz.prog) (t := 3) (j := 0) (l := [vi 0]) hB3 (by simp) rfl rfl rfl ?_
 intro w2 hs2 hB2 hk2
 try simp (disch := first | omega | assumption | rfl) only [↓reduceIte, go_sem, Nat.reduceLT, Nat.reduceEqDiff, Nat.reduceSub]
 refine hK _ _ ?_; clear hK hgd; clear K; try clear gd
 simp only [List.set_cons_zero] at hB2
 have hE2 : Ext w w2 := Keep.to_ext hE4 rfl (fun b hb => by omega) hk2
 repeat refine c_r ?_
 refine rq ?_; intro gd K hgd hK
 try simp (disch := first | omega | assumption | rfl) only [↓reduceIte, go_sem, Nat.reduceLT, Nat.reduceEqDiff, Nat.reduceSub]
 refine Fn.mono (labels_ok ⟨_, _, _, hnv⟩) ?_
 rintro _ w3 ⟨rfl, hE3, hs3, hbn⟩
 try simp (disch := first | omega | assumption | rfl) only [↓reduceIte, go_sem, Nat.reduceLT, Nat.reduceEqDiff, Nat.reduceSub]
 refine hK _ _ ?_; clear hK hgd; clear K; try clear gd
 have hE23 := hE2.trans hE3
 have hB2' := hE3.at hB2
 have hn3 := hn.ext hE23
 have hlt : n ≠ [] → ∀ a m c, nv = .slice (some a) m c → a.block < w.heap.size := fun hnn => row_lt hn (by simpa using hnn)
 repeat refine c_r ?_
 refine W_range (g := 234) (cap := #[.pointer (some ⟨w2.heap.size, 0, Option.none⟩)]) (vq0) rfl (labelsIt (C := fun b => b = w.heap.size) hbn hn3 (by omega) (fun h0 b hb _ a m c hv => by have := hlt h0 a m c hv; omega) (by omega) (fun h0 a m c hv => by have := hlt h0 a m c hv; omega)) (Keep.refl _ _) (Nat.le_refl _) (fun b hb => by omega)
  (fun x A args h => by rw [h]; rfl)
  (fun pre A => Ext w A ∧ A.heap[w.heap.size]? = some (.cells #[vi (1 + (pre.map fun l => 1 + l.length).sum : Nat)] 3 (0, 0)))
  (fun _ _ _ => False) ?_ (fun _ _ _ _ h _ => h.elim) ?_ ?_ ?_ (fun _ _ _ _ _ _ _ h _ => h.elim)
 ·rintro pre A B ⟨h1, h2⟩ hk
  exact ⟨Keep.to_ext h1 rfl (fun b hb => by unfold two at hb; omega) hk, (hk.block _ (Array.getElem?_eq_some_iff.1 h2).1 (by unfold two; omega)).trans h2⟩
 ·exact ⟨hE23, hB2'⟩
 ·rintro lp pre x suf A args hxs hszA ⟨hEA, hb⟩ rfl
  have hpl : pre.length + 1 ≤ n.length := by
   have := congrArg List.length hxs
   simp at this; omega
  have hpm : ∀ l ∈ pre, l.length ≤ 1000000000 := fun l hl' => hl l (List.mem_reverse.1 (by rw [hxs]; simp [hl']))
  have hxm : x.length ≤ 1000000000 := hl x (List.mem_reverse.1 (by rw [hxs]; simp))
  have hsb := sum_bound pre hpm
  have hsum : (((1 + (pre.map fun l => 1 + l.length).sum : Nat) : Int)) + (1 + (x.length : Int)) = ((1 + ((pre ++ [x]).map fun l => 1 + l.length).sum : Nat) : Int) := by
   rw [List.map_append, List.sum_append, List.map_cons, List.map_nil, List.sum_cons, List.sum_nil]; omega
  have hs2' : ((1 + (pre.map fun l => 1 + l.length).sum : Nat) : Int) ≤ 2000000000000000000 := by omega
  refine rq ?_; intro gd K hgd hK
  try simp (disch := first | omega | assumption | rfl) only [↓reduceIte, go_sem, Nat.reduceLT, Nat.reduceEqDiff, Nat.reduceSub]
  refine hK _ _ ?_; clear hK hgd; clear K; try clear gd
  refine thenQ_normal ?_
  refine ⟨rfl, KeepB.refl _ _ _, fun Y hY => ?_⟩
  have hbY := (hY.block _ (by omega) (by unfold two; omega)).trans hb
  have hEY : Ext w Y := Keep.to_ext hEA rfl (fun b hb => by unfold two at hb; omega) hY
  have hsY := hY.size
  have q0 : cellO Y (some ⟨w.heap.size, 0, Option.none⟩) = some (vi (1 + (pre.map fun l => 1 + l.length).sum : Nat)) := cellO_at hbY rfl
  repeat refine c_r ?_
  refine rq ?_; intro gd K hgd hK
  try simp (disch := first | omega | assumption | rfl) only [↓reduceIte, go_sem, Nat.reduceLT, Nat.reduceEqDiff, Nat.reduceSub, q0, hsum]
  refine sv_at (P := Tryz.prog) (t := 3) (j := 0) (l := [vi (1 + (pre.map fun l => 1 + l.length).sum : Nat)]) hbY (by simp) rfl rfl rfl ?_
  intro z hz hbz hkz
  try simp (disch := first | omega | assumption | rfl) only [↓reduceIte, go_sem, Nat.reduceLT, Nat.reduceEqDiff, Nat.reduceSub]
  refine hK _ _ ?_; clear hK hgd; clear K; try clear gd
  simp only [List.set_cons_zero] at hbz
  repeat refine c_r ?_
  exact ⟨⟨Keep.to_ext hEY rfl (fun b hb => by omega) hkz, hbz⟩, hkz.toB (by omega) (fun i _ h => h)⟩
 ·intro A hszA ⟨hEA, hb⟩ hD
  have q0 : cellO A (some ⟨w.heap.size, 0, Option.none⟩) = some (vi (1 + (n.reverse.map fun l => 1 + l.length).sum : Nat)) := cellO_at hb rfl
  have hrev : (n.reverse.map fun l => 1 + l.length).sum = (n.map fun l => 1 + l.length).sum := by rw [List.map_reverse, List.sum_reverse]
  rw [hrev] at q0
  repeat refine c_r ?_
  refine rg1 q0 ?_
  repeat refine c_r ?_
  refine ret_mark (v := vi (lenN n)) (.inr rfl) (by rfl) Tryz.ntmps169 (vr0) hD ?_
  intro Z hkZ hsZ
  exact ⟨rfl, Keep.to_ext hEA rfl (fun b hb => by omega) hkZ⟩
theorem checkN_bad {n : Nm} {i : Nat} (hi : i < n.length) (h : ∀ j (h : j < n.length), j < i → errL n[j] = 0) (he : errL n[i] ≠ 0) : checkN n = errL n[i] := by
 unfold checkN
 have : n.find? (fun l => decide (errL l ≠ 0)) = some n[i] := by
  refine findL_at (pre := n.take i) (suf := n.drop (i + 1)) (split_at hi) (fun y hy => ?_) (by simpa using he)
  obtain ⟨j, hj, rfl⟩ := List.getElem_of_mem hy
  rw [List.getElem_take]
  simp at hj
  simpa using h j (by omega) (by omega)
 rw [this]
theorem checkN_good {n : Nm} (h : ∀ j (h : j < n.length), errL n[j] = 0) : checkN n = if 255 < lenN n then 3 else 0 := by
 unfold checkN
 have : n.find? (fun l => decide (errL l ≠ 0)) = Option.none := findL_none (fun y hy => by
  obtain ⟨j, hj, rfl⟩ := List.getElem_of_mem hy
  simpa using h j hj)
 rw [this]
theorem RCheckName_ok (w : World) (nv : Value) (n : Nm) (hn : Row w nv (n.map vs)) (hl : ∀ l ∈ n, l.length ≤ 1000000000) (hnl : n.length ≤ 1000000000) :
  Fn Tryz.prog 57 #[nv] w (fun v w' => v = vi (checkN n) ∧ Ext w w') := by
 have hn0 := hn
 obtain ⟨an, cn, rfl, hcn, hgn⟩ := hn
 simp only [List.length_map] at hcn hgn hn0
 rw [List.length_map]
 refine enter Tryz.func57 Tryz.ntmps57 rfl rfl ?_
 repeat refine c_r ?_
 refine rg0 ?_
 repeat refine c_r ?_
 refine rg0 ?_
 repeat refine c_r ?_
 refine W_loop (fun m σ ds A => ds = [] ∧ ∃ (i : Nat), i + m = n.length ∧ σ 3 = vi i ∧ σ 0 = .slice an n.length cn ∧ Ext w A ∧ ∀ j (h : j < n.length), j < i → errL n[j] = 0) n.length ?_ ?_
 ·exact ⟨rfl, 0, by omega, vr0, vq0, Keep.refl _ _, fun j h hj => absurd hj (by omega)⟩
 rintro m σ ds A ⟨rfl, i, him, h3, h0, hEA, hlow⟩
 repeat refine c_r ?_
 refine rg2 h3 h0 ?_
 repeat refine c_r ?_
 refine wc0 ?_ ?_
 ·intro hlt
  simp only [decide_eq_true_eq] at hlt
  have hi : i < n.length := by omega
  have hi0 : (0 : Int) ≤ (i : Int) := by omega
  have hi1 : (i : Int) < (n.length : Int) := by omega
  have hi1' : (i : Int) + 1 = ((i + 1 : Nat) : Int) := by push_cast; rfl
  have hg := cellO_ext hEA (hgn i (by simpa using hi))
  rw [List.getElem_map] at hg
  obtain ⟨xn, rfl⟩ := Option.isSome_iff_exists.1 (some_of_cellO hg)
  repeat refine c_r ?_
  refine rq ?_; intro gd K hgd hK
  try simp (disch := first | omega | assumption | rfl) only [↓reduceIte, go_sem, Nat.reduceLT, Nat.reduceEqDiff, Nat.reduceSub, h0, h3, hi0, hi1, hg]
  refine Fn.mono (RCheckLabel_ok A n[i] (by have := hl n[i] (List.getElem_mem hi); omega)) ?_
  rintro _ A1 ⟨rfl, hE1⟩
  try simp (disch := first | omega | assumption | rfl) only [↓reduceIte, go_sem, Nat.reduceLT, Nat.reduceEqDiff, Nat.reduceSub]
  refine hK _ _ ?_; clear hK hgd; clear K; try clear gd
  repeat refine c_r ?_
  refine rg0 ?_
  repeat refine c_r ?_
  refine wc0 ?_ ?_
  ·intro hne
   simp only [Bool.not_eq_true', decide_eq_false_iff_not] at hne
   repeat (first | refine c_r ?_ | refine rg0 ?_)
   refine rt0 Tryz.ntmps57 ?_
   exact ⟨by rw [checkN_bad hi hlow hne], hEA.trans hE1⟩
  ·intro heq
   simp only [Bool.not_eq_false', decide_eq_true_eq] at heq
   repeat refine c_r ?_
   refine rg2 h3 hi1' ?_
   repeat refine c_r ?_
   refine ⟨m - 1, by omega, rfl, i + 1, by omega, vq0, (vq1 h0), hEA.trans hE1, fun j hj hji => ?_⟩
   by_cases hj2 : j = i
   ·subst hj2; exact heq
   ·exact hlow j hj (by omega)
 ·intro hge
  simp only [decide_eq_false_iff_not] at hge
  have hgood := checkN_good (n := n) (fun j hj => hlow j hj (by omega))
  repeat refine c_r ?_
  refine rq ?_; intro gd K hgd hK
  try simp (disch := first | omega | assumption | rfl) only [↓reduceIte, go_sem, Nat.reduceLT, Nat.reduceEqDiff, Nat.reduceSub, h0]
  refine Fn.mono (RLen_ok A _ n (hn0.ext hEA) hl hnl) ?_
  rintro _ A1 ⟨rfl, hE1⟩
  try simp (disch := first | omega | assumption | rfl) only [↓reduceIte, go_sem, Nat.reduceLT, Nat.reduceEqDiff, Nat.reduceSub]
  refine hK _ _ ?_; clear hK hgd; clear K; try clear gd
  repeat refine c_r ?_
  refine wc0 ?_ ?_
  ·intro hb
   simp only [decide_eq_true_eq] at hb
   repeat (first | refine c_r ?_ | refine rg0 ?_)
   refine rt0 Tryz.ntmps57 ?_
   exact ⟨by rw [hgood, if_pos (by omega)], hEA.trans hE1⟩
  ·intro hb
   simp only [decide_eq_false_iff_not] at hb
   repeat (first | refine c_r ?_ | refine rg0 ?_)
   refine rt0 Tryz.ntmps57 ?_
   exact ⟨by rw [hgood, if_neg (by omega)], hEA.trans hE1⟩
theorem NCheck_ok (w : World) (nv : Value) (n : Nm) (hn : Row w nv (n.map vs)) (hl : ∀ l ∈ n, l.length ≤ 1000000000) (hnl : n.length ≤ 1000000000) :
  Fn Tryz.prog 118 #[nv] w (fun v w' => v = vi (checkN n) ∧ Ext w w') := by
 have hn0 := hn
 obtain ⟨an, cn, rfl, hcn, hgn⟩ := hn
 simp only [List.length_map] at hcn hgn hn0
 rw [List.length_map]
 refine enter Tryz.func118 Tryz.ntmps118 rfl rfl ?_
 repeat refine c_r ?_
 refine rg0 ?_
 repeat refine c_r ?_
 refine rg0 ?_
 repeat refine c_r ?_
 refine W_loop (fun m σ ds A => ds = [] ∧ ∃ (i : Nat), i + m = n.length ∧ σ 8 = vi i ∧ σ 7 = vi n.length ∧ σ 6 = .slice an n.length cn ∧ σ 0 = .slice an n.length cn ∧ Ext w A ∧ ∀ j (h : j < n.length), j < i → errL n[j] = 0) n.length ?_ ?_
 ·exact ⟨rfl, 0, by omega, vr0, vq0, vq0, vq0, Keep.refl _ _, fun j h hj => absurd hj (by omega)⟩
 rintro m σ ds A ⟨rfl, i, him, h8, h7, h6, h0, hEA, hlow⟩
 repeat refine c_r ?_
 refine rg2 h8 h7 ?_
 repeat refine c_r ?_
 refine wc0 ?_ ?_
 ·intro hlt
  simp only [decide_eq_true_eq] at hlt
  have hi : i < n.length := by omega
  have hi0 : (0 : Int) ≤ (i : Int) := by omega
  have hi1 : (i : Int) < (n.length : Int) := by omega
  have hi1' : (i : Int) + 1 = ((i + 1 : Nat) : Int) := by push_cast; rfl
  have hg := cellO_ext hEA (hgn i (by simpa using hi))
  rw [List.getElem_map] at hg
  obtain ⟨xn, rfl⟩ := Option.isSome_iff_exists.1 (some_of_cellO hg)
  repeat refine c_r ?_
  refine rg5 h6 h8 hi0 hi1 hg ?_
  repeat refine c_r ?_
  refine rq ?_; intro gd K hgd hK
  try simp (disch := first | omega | assumption | rfl) only [↓reduceIte, go_sem, Nat.reduceLT, Nat.reduceEqDiff, Nat.reduceSub]
  refine Fn.mono (LCheck_ok A n[i] (by have := hl n[i] (List.getElem_mem hi); omega)) ?_
  rintro _ A1 ⟨rfl, hE1⟩
  try simp (disch := first | omega | assumption | rfl) only [↓reduceIte, go_sem, Nat.reduceLT, Nat.reduceEqDiff, Nat.reduceSub]
  refine hK _ _ ?_; clear hK hgd; clear K; try clear gd
  repeat refine c_r ?_
  refine rg0 ?_
  repeat refine c_r ?_
  refine wc0 ?_ ?_
  ·intro hne
   simp only [Bool.not_eq_true', decide_eq_false_iff_not] at hne
   repeat (first | refine c_r ?_ | refine rg0 ?_)
   refine rt0 Tryz.ntmps118 ?_
   exact ⟨by rw [checkN_bad hi hlow hne], hEA.trans hE1⟩
  ·intro heq
   simp only [Bool.not_eq_false', decide_eq_true_eq] at heq
   repeat refine c_r ?_
   refine rg2 h8 hi1' ?_
   repeat refine c_r ?_
   refine ⟨m - 1, by omega, rfl, i + 1, by omega, vq0, (vq1 h7), (vq1 h6), (vq1 h0), hEA.trans hE1, fun j hj hji => ?_⟩
   by_cases hj2 : j = i
   ·subst hj2; exact heq
   ·exact hlow j hj (by omega)
 ·intro hge
  simp only [decide_eq_false_iff_not] at hge
  have hgood := checkN_good (n := n) (fun j hj => hlow j hj (by omega))
  repeat refine c_r ?_
  refine rq ?_; intro gd K hgd hK
  try simp (disch := first | omega | assumption | rfl) only [↓reduceIte, go_sem, Nat.reduceLT, Nat.reduceEqDiff, Nat.reduceSub, h0]
  refine Fn.mono (NLen_ok A _ n (hn0.ext hEA) hl hnl) ?_
  rintro _ A1 ⟨rfl, hE1⟩
  try simp (disch := first | omega | assumption | rfl) only [↓reduceIte, go_sem, Nat.reduceLT, Nat.reduceEqDiff, Nat.reduceSub]
  refine hK _ _ ?_; clear hK hgd; clear K; try clear gd
  repeat refine c_r ?_
  refine wc0 ?_ ?_
  ·intro hb
   simp only [decide_eq_true_eq] at hb
   repeat (first | refine c_r ?_ | refine rg0 ?_)
   refine rt0 Tryz.ntmps118 ?_
   exact ⟨by rw [hgood, if_pos (by omega)], hEA.trans hE1⟩
  ·intro hb
   simp only [decide_eq_false_iff_not] at hb
   repeat (first | refine c_r ?_ | refine rg0 ?_)
   refine rt0 Tryz.ntmps118 ?_
   exact ⟨by rw [hgood, if_neg (by omega)], hEA.trans hE1⟩
def swapN (q f t : Nm) : Nm := q.take (q.length - f.length) ++ t
structure NmM (n : Nm) : Prop where
 lb : ∀ l ∈ n, l.length ≤ 1000000
 len : n.length ≤ 1000000
theorem NmM.LB {n : Nm} (h : NmM n) : LB n := fun l hl => by have := h.lb l hl; omega
theorem NmM.s {n : Nm} (h : NmM n) : NmS n := ⟨h.LB, by have := h.len; omega⟩
theorem swap_m {q f t : Nm} (hq : NmM q) (ht : NmM t) : (∀ l ∈ swapN q f t, l.length ≤ 1000000000) ∧ (swapN q f t).length ≤ 2000000 := by
 refine ⟨fun l hl => ?_, ?_⟩
 ·rcases List.mem_append.1 hl with h | h
  ·have := hq.lb l (List.mem_of_mem_take h); omega
  ·have := ht.lb l h; omega
 ·unfold swapN
  rw [List.length_append, List.length_take]
  have := hq.len
  have := ht.len
  omega
theorem NSwap_ok (w : World) (qv fv tv : Value) (q f t : Nm) (hq : Row w qv (q.map vs)) (hf : Row w fv (f.map vs)) (ht : Row w tv (t.map vs)) (mq : NmM q) (mf : NmM f) (mt : NmM t) (hu : under q f = true) :
  Fn Tryz.prog 52 #[qv, fv, tv] w (fun v w' => Ext w w' ∧ (checkN (swapN q f t) = 0 → ∃ sv, v = .tuple #[sv, vi 0] ∧ Row w' sv ((swapN q f t).map vs) ∧ BlkB w.heap.size w' sv) ∧ (checkN (swapN q f t) ≠ 0 → v = .tuple #[.slice Option.none 0 0, vi 7])) := by
 have hul := under_len hu
 obtain ⟨aq, cq, hqv, hcq, hgq⟩ := id hq
 obtain ⟨af, cf, hfv, _⟩ := id hf
 rw [List.length_map] at hqv hcq hfv
 have hfr : Row w (.slice aq (q.length - f.length) cq) ((q.take (q.length - f.length)).map vs) := by
  have hl : ((q.take (q.length - f.length)).map vs).length = q.length - f.length := by rw [List.length_map, List.length_take]; omega
  refine ⟨aq, cq, by rw [hl], by omega, fun j hj => ?_⟩
  have := hgq j (by rw [List.length_map]; omega)
  rw [this]; simp
 have hm := swap_m (f := f) mq mt
 have bq := mq.len
 have bf := mf.len
 have bt := mt.len
 refine enter Tryz.func52 Tryz.ntmps52 rfl rfl ?_
 repeat refine c_r ?_
 refine rg0 ?_
 repeat refine c_r ?_
 refine rq ?_; intro gd K hgd hK
 try simp (disch := first | omega | assumption | rfl) only [↓reduceIte, go_sem, Nat.reduceLT, Nat.reduceEqDiff, Nat.reduceSub]
 refine Fn.mono (Under_ok _ _ _ _ _ hq hf mq.LB mf.LB (by have := mq.len; omega) (by have := mf.len; omega)) ?_
 rintro _ w1 ⟨rfl, hE1⟩
 try simp (disch := first | omega | assumption | rfl) only [↓reduceIte, go_sem, Nat.reduceLT, Nat.reduceEqDiff, Nat.reduceSub]
 refine hK _ _ ?_; clear hK hgd; clear K; try clear gd
 rw [hu]
 repeat refine c_r ?_
 refine wc0 ?_ ?_
 ·intro h; cases h
 intro _
 have e1 : (q.length : Int) - (f.length : Int) = ((q.length - f.length : Nat) : Int) := by omega
 have e2 : (0 : Int) ≤ ((q.length - f.length : Nat) : Int) := by omega
 have e3 : ((q.length - f.length : Nat) : Int) ≤ (cq : Int) := by omega
 repeat refine c_r ?_
 refine rq ?_; intro gd K hgd hK
 try simp (disch := first | omega | assumption | rfl) only [↓reduceIte, go_sem, Nat.reduceLT, Nat.reduceEqDiff, Nat.reduceSub, hqv, hfv, e1, e2, e3, Nat.sub_zero, adr_zero, ite_self]
 refine Fn.mono (CloneS_ok (hfr.ext hE1) (by rw [List.length_take]; have := mq.len; omega)) ?_
 rintro u w2 ⟨hou, hE2⟩
 try simp (disch := first | omega | assumption | rfl) only [↓reduceIte, go_sem, Nat.reduceLT, Nat.reduceEqDiff, Nat.reduceSub]
 have hl2 : ((q.take (q.length - f.length)).map vs).length + (t.map vs).length ≤ 1000000000000 := by
  rw [List.length_map, List.length_map, List.length_take]; have := mq.len; have := mt.len; omega
 refine op_app hou (ht.ext (hE1.trans hE2)) (by rfl) (by rfl) (by rfl) (by rfl) (by rfl) (by rfl) (by rfl) (by rfl) (ones_vs _) hl2 (by decide) hE2.size ?_
 intro sv w3 hs hE3 _ _
 try simp (disch := first | omega | assumption | rfl) only [↓reduceIte, go_sem, Nat.reduceLT, Nat.reduceEqDiff, Nat.reduceSub]
 refine hK _ _ ?_; clear hK hgd; clear K; try clear gd
 have hE13 := hE3 w (hE1.trans hE2) hE1.size
 rw [← List.map_append] at hs
 have hsr : Row w3 sv ((swapN q f t).map vs) := hs.row
 obtain ⟨as1, cs1, hsv, hcs, hgs⟩ := id hsr
 rw [List.length_map] at hsv hcs
 repeat refine c_r ?_
 refine rq ?_; intro gd K hgd hK
 try simp (disch := first | omega | assumption | rfl) only [↓reduceIte, go_sem, Nat.reduceLT, Nat.reduceEqDiff, Nat.reduceSub]
 refine Fn.mono (NCheck_ok w3 _ (swapN q f t) hsr hm.1 (by have := hm.2; omega)) ?_
 rintro _ w4 ⟨rfl, hE4⟩
 try simp (disch := first | omega | assumption | rfl) only [↓reduceIte, go_sem, Nat.reduceLT, Nat.reduceEqDiff, Nat.reduceSub]
 refine hK _ _ ?_; clear hK hgd; clear K; try clear gd
 repeat refine c_r ?_
 refine wc0 ?_ ?_
 ·intro hne
  simp only [Bool.not_eq_true', decide_eq_false_iff_not] at hne
  repeat (first | refine c_r ?_ | refine rg0 ?_)
  refine ret_any (.inr rfl) Tryz.ntmps52 rfl (res_tmp (v := .slice Option.none 0 0) (vr0) (res_tmp (v := vi 7) (vr0) res_nil)) ?_
  exact ⟨hE13.trans hE4, fun h => absurd h hne, fun _ => rfl⟩
 ·intro heq
  simp only [Bool.not_eq_false', decide_eq_true_eq] at heq
  repeat refine c_r ?_
  refine rq ?_; intro gd K hgd hK
  try simp (disch := first | omega | assumption | rfl) only [↓reduceIte, go_sem, Nat.reduceLT, Nat.reduceEqDiff, Nat.reduceSub]
  rw [hsv]
  refine Fn.mono (P_cs.Clip_ok hcs) ?_
  rintro _ y0 ⟨rfl, hy0⟩
  try simp (disch := first | omega | assumption | rfl) only [↓reduceIte, go_sem, Nat.reduceLT, Nat.reduceEqDiff, Nat.reduceSub]
  rw [hy0]
  clear hy0 y0
  refine hK _ _ ?_; clear hK hgd; clear K; try clear gd
  repeat refine c_r ?_
  refine ret_any (.inr rfl) Tryz.ntmps52 rfl (res_tmp (v := .slice as1 (swapN q f t).length (swapN q f t).length) (vr0) (res_tmp (v := vi 0) (vr0) res_nil)) ?_
  have hbs := hs.blk
  rw [hsv] at hbs
  refine ⟨hE13.trans hE4, fun _ => ⟨_, rfl, ?_, (hbs.same.ext hE4.size).mono hE1.size⟩, fun h => absurd heq h⟩
  exact Row.ext (w := w3) ⟨as1, (swapN q f t).length, by rw [List.length_map], by rw [List.length_map]; exact Nat.le_refl _, hgs⟩ hE4
end Go.Proofs.YtopbbjdembnfdaaGreat
namespace Go.Proofs.YtopbbjdembnfdaaGreat.P_cm
open Go Go.Proofs.YtopbbjdembnfdaaGreat
set_option maxRecDepth 10000
theorem Clip_ok {w : World} {a : Option Addr} {n c : Nat} (hc : n ≤ c) : Fn Tryz.prog 166 #[.slice a n c] w (fun u w' => u = .slice a n n ∧ w' = w) := by
 refine enter Tryz.func166 Tryz.ntmps166 rfl rfl ?_
 repeat refine c_r ?_
 refine rg0 ?_
 repeat refine c_r ?_
 refine rq ?_; intro gd K hgd hK
 try simp (disch := first | omega | assumption | rfl) only [↓reduceIte, go_sem, Nat.reduceLT, Nat.reduceEqDiff, Nat.reduceSub]
 have hcl : slD Tryz.prog (some (TypeDesc.slice 23)) (Value.slice a n c) Option.none (some (Value.int IntKind.i64 ↑n)) (some (Value.int IntKind.i64 ↑n)) = some (.slice a n n) := s_clip hc (by rfl)
 rw [hcl]
 try simp (disch := first | omega | assumption | rfl) only [↓reduceIte, go_sem, Nat.reduceLT, Nat.reduceEqDiff, Nat.reduceSub]
 refine hK _ _ ?_; clear hK hgd; clear K; try clear gd
 repeat refine c_r ?_
 refine rt0 Tryz.ntmps166 ?_
 exact ⟨rfl, rfl⟩
end Go.Proofs.YtopbbjdembnfdaaGreat.P_cm
namespace Go.Proofs.YtopbbjdembnfdaaGreat
open Go
set_option maxRecDepth 10000
def NmC (w0 : World) (cs : List Value) (n : Nm) : Prop := ∃ v, cs = [v] ∧ Row w0 v (n.map vs)
theorem nm_shape (w : World) : Shape 1 (NmC w) := by
 refine ⟨fun h => ?_, fun h => ?_⟩
 ·obtain ⟨v, rfl, _⟩ := h; rfl
 ·obtain ⟨v, rfl, a, c, rfl, _⟩ := h
  intro q hq; rw [List.mem_singleton.1 hq]; rfl
theorem Own.k1 {B : Nat} {w : World} {e : TypeId} {v : Value} {l : List Value} (h : Own B w e v l) (h1 : ∀ q ∈ l, one q = true) : OwnK 1 B w e v (l.map fun q => [q]) := by
 have hf : ∀ l : List Value, (l.map fun q => [q]).flatten = l := fun l => by
  induction l with
  | nil => rfl
  | cons x l ih => rw [List.map_cons, List.flatten_cons, ih]; rfl
 refine ⟨by rw [hf, List.length_map]; exact h, fun x hx => ?_, fun x hx q hq => ?_⟩
 ·obtain ⟨q, _, rfl⟩ := List.mem_map.1 hx; rfl
 ·obtain ⟨q', hq', rfl⟩ := List.mem_map.1 hx
  rw [List.mem_singleton.1 hq]; exact h1 _ hq'
def leads (t : Int) : Bool := decide (t = 2) || (decide (t = 5) || (decide (t = 12) || (decide (t = 39) || decide (t = 15))))
def targetsL (t : Int) (ds : List DatL) : List Nm := if leads t then ds.filterMap fun d => d.names.head? else []
theorem DatAt.cells {w0 : World} {cs : List Value} {d : DatL} (h : DatAt w0 cs d) : ∃ nm, cs[0]? = some (vi d.ty) ∧ cs[1]? = some nm ∧ NamesAt w0 nm d.names := by
 obtain ⟨nm, nu, tx, rw', rfl, h1, _⟩ := h.ex
 exact ⟨nm, rfl, rfl, h1⟩
theorem cell_of_cells {w : World} {p : Option Addr} {k j : Nat} {cs : List Value} {u : Value} (h : cellsO w p k = some cs) (hj : cs[j]? = some u) : cellO w (adr p j) = some u := by
 obtain ⟨hj1, hj2⟩ := List.getElem?_eq_some_iff.1 hj
 have := cellsO_get h hj1
 rw [hj2] at this; exact this
theorem Targets_ok {w0 w : World} (hE0 : Ext w0 w) {ow tl dv : Value} {t : Int} {ds : List DatL} (how : one ow = true) (htl : one tl = true) (hd : Rows 5 (DatAt w0) w dv ds) (hlen : ds.length ≤ 1000000000) :
  Fn Tryz.prog 178 #[.agg #[ow, vi t, tl, dv]] w (fun v w' => Ext w w' ∧ Rows 1 (NmC w0) w' v (targetsL t ds) ∧ BlkB w.heap.size w' v) := by
 obtain ⟨aD, cD, hdv, hcD, hgD⟩ := hd.open
 refine enter Tryz.func178 Tryz.ntmps178 rfl rfl ?_
 repeat refine c_r ?_
 refine rg0 ?_
 repeat refine c_r ?_
 refine W_alloc1 ?_
 intro w1 hE1 hs1 hA
 have p1 : cellO w1 (some ⟨w.heap.size, 1, Option.none⟩) = some (vi t) := cellO_at hA rfl
 have p3 : cellO w1 (some ⟨w.heap.size, 3, Option.none⟩) = some dv := cellO_at hA rfl
 rw [hdv] at p3
 refine rg0 ?_
 repeat refine c_r ?_
 refine rg2 p1 Nat.zero_add ?_
 refine thenQ_normal ?_
 refine W_mono (Q := fun e σ' ds' v' => e = .normal ∧ ds' = [] ∧ Ext w1 v' ∧ ∃ ov, σ' 3 = ov ∧ Owns 1 (NmC w0) w1.heap.size v' 23 ov (targetsL t ds)) ?_ ?_
 ·refine W_block ?_
  refine W_seq ?_
  refine W_mono (Q := fun e σ' ds' v' => e = .normal ∧ ds' = [] ∧ v' = w1 ∧ σ' 1 = .pointer (some ⟨w.heap.size, 0, Option.none⟩) ∧ σ' 3 = .slice Option.none 0 0 ∧ σ' 8 = .bool (leads t)) ?_ ?_
  ·have lead : ∀ {σ' : Sto} {b : Bool}, b = leads t → σ' 8 = .bool b → σ' 8 = .bool (leads t) := fun h h2 => h ▸ h2
   refine W_seq ?_
   refine rg0 ?_
   refine thenQ_normal ?_
   refine wc0 ?_ ?_
   ·intro h
    repeat refine c_r ?_
    refine ⟨rfl, rfl, rfl, vq0, vq0, lead (b := true) ?_ (by simp only [↓reduceIte, go_sem, Nat.reduceLT, Nat.reduceEqDiff, Nat.reduceSub]; rw [h])⟩
    unfold leads; rw [h]; rfl
   intro h1
   repeat refine c_r ?_
   refine rg0 ?_
   refine thenQ_normal ?_
   refine wc0 ?_ ?_
   ·intro h
    repeat refine c_r ?_
    refine ⟨rfl, rfl, rfl, vq0, vq0, lead (b := true) ?_ (by simp only [↓reduceIte, go_sem, Nat.reduceLT, Nat.reduceEqDiff, Nat.reduceSub]; rw [h])⟩
    unfold leads; rw [h1, h]; rfl
   intro h2
   repeat refine c_r ?_
   refine rg0 ?_
   refine thenQ_normal ?_
   refine wc0 ?_ ?_
   ·intro h
    repeat refine c_r ?_
    refine ⟨rfl, rfl, rfl, vq0, vq0, lead (b := true) ?_ (by simp only [↓reduceIte, go_sem, Nat.reduceLT, Nat.reduceEqDiff, Nat.reduceSub]; rw [h])⟩
    unfold leads; rw [h1, h2, h]; rfl
   intro h3
   repeat refine c_r ?_
   refine rg0 ?_
   refine thenQ_normal ?_
   refine wc0 ?_ ?_
   ·intro h
    repeat refine c_r ?_
    refine ⟨rfl, rfl, rfl, vq0, vq0, lead (b := true) ?_ (by simp only [↓reduceIte, go_sem, Nat.reduceLT, Nat.reduceEqDiff, Nat.reduceSub]; rw [h])⟩
    unfold leads; rw [h1, h2, h3, h]; rfl
   intro h4
   repeat refine c_r ?_
   refine rg0 ?_
   refine ⟨rfl, rfl, rfl, vq0, vq0, ?_⟩
   rw [show leads t = decide (t = 15) from by unfold leads; rw [h1, h2, h3, h4]; rfl]
   simp only [↓reduceIte, go_sem, Nat.reduceLT, Nat.reduceEqDiff, Nat.reduceSub]
  rintro _ σ1 _ v1 ⟨rfl, rfl, hv1, h1, h3, h8⟩
  rw [hv1]
  clear hv1 v1
  refine thenQ_normal ?_
  refine W_cond (t := leads t) ((vq1 h8)) ?_ ?_
  ·intro hl
   have htg : ∀ ds : List DatL, targetsL t ds = ds.filterMap fun d => d.names.head? := fun ds => by unfold targetsL; rw [if_pos hl]
   repeat refine c_r ?_
   refine rg3 h1 p3 Nat.zero_add ?_
   repeat refine c_r ?_
   refine W_loop (fun m σ ds' A => ds' = [] ∧ ∃ (i : Nat) (ov : Value), i + m = ds.length ∧ σ 17 = vi i ∧ σ 16 = vi ds.length ∧ σ 15 = .slice aD ds.length cD ∧ σ 3 = ov ∧ Ext w1 A ∧ Owns 1 (NmC w0) w1.heap.size A 23 ov (targetsL t (ds.take i))) ds.length ?_ ?_
   ·exact ⟨rfl, 0, .slice Option.none 0 0, by omega, vr0, vr0, vq0, (vq1 h3), Keep.refl _ _, by rw [htg]; exact Owns.nil _ _ _ _ _⟩
   rintro m σ ds' A ⟨rfl, i, ov, him, h17, h16, h15, h3, hEA, hov⟩
   repeat refine c_r ?_
   refine rg2 h17 h16 ?_
   repeat refine c_r ?_
   refine wc0 ?_ ?_
   ·intro hlt
    simp only [decide_eq_true_eq] at hlt
    have hi : i < ds.length := by omega
    have hi0 : (0 : Int) ≤ (i : Int) := by omega
    have hi1 : (i : Int) < (ds.length : Int) := by omega
    have hi1' : (i : Int) + 1 = ((i + 1 : Nat) : Int) := by push_cast; rfl
    obtain ⟨cd, hcd, hDd⟩ := hgD i hi
    obtain ⟨xD, rfl⟩ := Option.isSome_iff_exists.1 (cellsO_some hcd)
    have hcdA := cellsO_ext (hE1.trans hEA) hcd
    obtain ⟨nm, nu, tx, rw', hcs, n1, _⟩ := hDd.ex
    obtain ⟨vals, ⟨an, cn, rfl, hcn, hgn⟩, hvl, hvr⟩ := n1
    have hcd1 := (dat_shape w0).ones hDd
    have hcdl := (dat_shape w0).len hDd
    have htk : targetsL t (ds.take (i + 1)) = targetsL t (ds.take i) ++ (ds[i].names.head?).toList := by
     rw [htg, htg, take_succ' hi, List.filterMap_append]
     congr 1
    repeat refine c_r ?_
    refine rq ?_; intro gd K hgd hK
    try simp (disch := first | omega | assumption | rfl) only [↓reduceIte, go_sem, Nat.reduceLT, Nat.reduceEqDiff, Nat.reduceSub, h15, h17, hi0, hi1, hcdA]
    have hB3 := new_block A (.cells #[vi 0, .slice Option.none 0 0, .slice Option.none 0 0, .slice Option.none 0 0, .slice Option.none 0 0] 59 (0, 0))
    have hE4 := Ext.alloc A (.cells #[vi 0, .slice Option.none 0 0, .slice Option.none 0 0, .slice Option.none 0 0, .slice Option.none 0 0] 59 (0, 0))
    have hs4 := new_size A (.cells #[vi 0, .slice Option.none 0 0, .slice Option.none 0 0, .slice Option.none 0 0, .slice Option.none 0 0] 59 (0, 0))
    revert hB3 hE4 hs4
    generalize A.alloc (.cells #[vi 0, .slice Option.none 0 0, .slice Option.none 0 0, .slice Option.none 0 0, .slice Option.none 0 0] 59 (0, 0)) = A2
    intro hB3 hE4 hs4
    refine sv_all (P := Tryz.prog) (t := 59) (l := cd) hB3 hcdl hcd1 (by rw [hcdl]; rfl) rfl ?_
    intro A3 hs5 hB5 hk5
    try simp (disch := first | omega | assumption | rfl) only [↓reduceIte, go_sem, Nat.reduceLT, Nat.reduceEqDiff, Nat.reduceSub]
    refine hK _ _ ?_; clear hK hgd; clear K; try clear gd
    have hE5 : Ext A A3 := Keep.to_ext hE4 rfl (fun b hb => by omega) hk5
    have q1 : cellO A3 (some ⟨A.heap.size, 1, Option.none⟩) = some (.slice an vals.length cn) := sv_get hB5 (by rw [hcs]; rfl)
    have hEA3 := hEA.trans hE5
    repeat refine c_r ?_
    refine rg2 q1 Nat.zero_add ?_
    repeat refine c_r ?_
    refine wc0 ?_ ?_
    ·intro hgt
     simp only [decide_eq_true_eq] at hgt
     have hv0 : 0 < vals.length := by omega
     have hg0 := hgn 0 hv0
     obtain ⟨xN, rfl⟩ := Option.isSome_iff_exists.1 (some_of_cellO hg0)
     have hw03 : Ext w0 A3 := hE0.trans (hE1.trans hEA3)
     have hg0' := cellO_ext hw03 hg0
     rw [adr_zero] at hg0'
     obtain ⟨n0, hn0⟩ : ∃ n0, ds[i].names.head? = some n0 ∧ Row w0 (vals[0]) (n0.map vs) := by
      have h1 := hvr 0 hv0 (by omega)
      refine ⟨ds[i].names[0]'(by omega), ?_, h1⟩
      rw [List.head?_eq_getElem?, List.getElem?_eq_getElem (by omega)]
     obtain ⟨a0, c0, hv0e, _⟩ := id hn0.2
     have hz : (0 : Int) ≤ 0 := by omega
     repeat refine c_r ?_
     refine rq ?_; intro gd K hgd hK
     try simp (disch := first | omega | assumption | rfl) only [↓reduceIte, go_sem, Nat.reduceLT, Nat.reduceEqDiff, Nat.reduceSub, h3, q1, Nat.zero_add, hgt, hz, hg0', Int.toNat_zero, adr_zero]
     refine bs_one (z := .slice Option.none 0 0) (v := vals[0]) (by rfl) (by rfl) (by rfl) (by rfl) (by rw [hv0e]; rfl) ?_
     intro A4 hE6 hs6 ho6
     try simp (disch := first | omega | assumption | rfl) only [↓reduceIte, go_sem, Nat.reduceLT, Nat.reduceEqDiff, Nat.reduceSub]
     have hrow : Rows 1 (NmC w0) A4 (.slice (some ⟨A3.heap.size, 0, Option.none⟩) 1 1) [n0] := by
      have h1 := ho6.k1 (fun q hq => by rw [List.mem_singleton.1 hq, hv0e]; rfl)
      exact ⟨_, h1.rowK, rfl, fun j h h' => by
       have : j = 0 := by simp at h; omega
       subst this
       exact ⟨_, rfl, hn0.2⟩⟩
     have htl2 : (targetsL t (ds.take i)).length ≤ ds.length := by
      rw [htg]
      have := List.length_filterMap_le (fun d : DatL => d.names.head?) (ds.take i)
      rw [List.length_take] at this; omega
     refine op_appR (nm_shape w0) ((hov.ext hE5).ext hE6) hrow (by rfl) (by rfl) (by rfl) (by rfl) (by rfl) (by rfl) (by decide) (vr0) (vr0) (by simp; omega) (by decide) (by have := hEA3.size; have := hE6.size; omega) ?_
     intro ov' A5 hov' hE7 _ _
     try simp (disch := first | omega | assumption | rfl) only [↓reduceIte, go_sem, Nat.reduceLT, Nat.reduceEqDiff, Nat.reduceSub]
     refine hK _ _ ?_; clear hK hgd; clear K; try clear gd
     repeat refine c_r ?_
     refine rg2 h17 hi1' ?_
     repeat refine c_r ?_
     exact ⟨m - 1, by omega, rfl, i + 1, ov', by omega, vq0, (vq1 h16), (vq1 h15), vq0, hE7 w1 (hEA3.trans hE6) (Nat.le_refl _), by rw [htk, hn0.1]; exact hov'⟩
    ·intro hgt
     simp only [decide_eq_false_iff_not] at hgt
     have hnil : ds[i].names = [] := List.length_eq_zero_iff.1 (by omega)
     repeat refine c_r ?_
     refine rg2 h17 hi1' ?_
     repeat refine c_r ?_
     exact ⟨m - 1, by omega, rfl, i + 1, ov, by omega, vq0, (vq1 h16), (vq1 h15), (vq1 h3), hEA3, by rw [htk, hnil]; simpa using hov.ext hE5⟩
   ·intro hge
    simp only [decide_eq_false_iff_not] at hge
    rw [List.take_of_length_le (by omega)] at hov
    repeat refine c_r ?_
    exact ⟨rfl, rfl, hEA, ov, h3, hov⟩
  ·intro hl
   have htg : targetsL t ds = [] := by unfold targetsL; rw [hl]; rfl
   repeat refine c_r ?_
   exact ⟨rfl, rfl, Keep.refl _ _, _, h3, by rw [htg]; exact Owns.nil _ _ _ _ _⟩
 ·rintro _ σ1 _ v1 ⟨rfl, rfl, hE2, ov, h3, hov⟩
  obtain ⟨ag, cg, hov', hcg, _⟩ := hov.rows.open
  rw [hov'] at hov
  repeat refine c_r ?_
  refine rq ?_; intro gd K hgd hK
  try simp (disch := first | omega | assumption | rfl) only [↓reduceIte, go_sem, Nat.reduceLT, Nat.reduceEqDiff, Nat.reduceSub, h3]
  rw [hov']
  refine Fn.mono (P_cm.Clip_ok hcg) ?_
  rintro _ y0 ⟨rfl, hy0⟩
  try simp (disch := first | omega | assumption | rfl) only [↓reduceIte, go_sem, Nat.reduceLT, Nat.reduceEqDiff, Nat.reduceSub]
  rw [hy0]
  clear hy0 y0
  refine hK _ _ ?_; clear hK hgd; clear K; try clear gd
  repeat refine c_r ?_
  refine rt0 Tryz.ntmps178 ?_
  have h4 := hov.rows.take (m := (targetsL t ds).length) (c2 := (targetsL t ds).length) (Nat.le_refl _) (Nat.le_refl _)
  rw [List.take_length] at h4
  exact ⟨hE1.trans hE2, h4, hov.blk.same.mono (by omega)⟩
section
variable {P : Program} {d : Option Tmp} {ty : TypeId} {ps : String} {af : Array Edge} {g : Option (Nat × Bool)} {ρ : Operand → Value} {w : World} {K : Value → World → Prop}
theorem op_of_bin {op : BinOp} {t yt : TypeId} {x y : Operand} {u v r : Value} (hx : ρ x = u) (hy : ρ y = v) (hr : (do eqGuard op t x y u v; binOp op t u v : Sem Value).run P w = .ok r w) (h : K r w) :
  opW P ⟨d, .binOp op t x y yt, ty, ps, af, g⟩ ρ w K := by
 have := opR_val (P := P) (K := K) hr h
 rw [← hx, ← hy] at this
 exact this
theorem neq_ptr_same {t te yt : TypeId} {j : TypeInfo} {x y : Operand} {a : Addr} (ht : tyU P t = some (.pointer te)) (hj : P.info? te = some j) (hx : ρ x = .pointer (some a)) (hy : ρ y = .pointer (some a)) (h : K (.bool false) w) :
  opW P ⟨d, .binOp .neq t x y yt, ty, ps, af, g⟩ ρ w K := by
 refine op_of_bin hx hy ?_ h
 simp [eqGuard, Lib.run_neq_ptr_same (P := P) w a (show P.underlying t = _ from ht) hj]
theorem op_conv {s t : TypeId} {x : Operand} {u v : Value} {w' : World} (hx : ρ x = u) (hr : (convert s t u).run P w = .ok v w') (h : K v w') : opW P ⟨d, .convert s t x, ty, ps, af, g⟩ ρ w K := by
 show opR P K ((do pure (.value (← convert s t (ρ x))) : Sem Next).run P w)
 rw [hx]
 exact opR_val hr h
theorem op_appS {B : Nat} {s x : Operand} {t tu e : TypeId} {inf : TypeInfo} {v : Value} {l : List Value} {bs : List UInt8} (hown : Own B w e v l) (ht : tyU P t = some (.slice e)) (hu : tyU P tu = some .string) (hi : P.info? e = some inf) (hz : inf.zero = some (.int .u8 0))
  (hsize : inf.size = 1) (hby : inf.bytes = 1) (hv : ρ s = v) (hx : ρ x = vs bs) (hlen : l.length + bs.length ≤ 100000000000) (hB : B ≤ w.heap.size)
  (h : ∀ v' w', Own B w' e v' (l ++ bs.map byteV) → Keep (fun b => some b = v.ownBlock) w w' → K v' w') :
  opW P ⟨d, .call ⟨.builtin .append, #[s, x], #[t, tu]⟩, ty, ps, af, g⟩ ρ w K := by
 have hs : (⟨bs.toArray⟩ : ByteArray).size = bs.length := by simp [ByteArray.size]
 obtain ⟨v', w', hr, h2, h3, h4⟩ := Lib.run_append_own_string (P := P) w B t tu ty e inf (show P.underlying t = _ from ht) (show P.underlying tu = _ from hu) hi hz hsize hby v l.length l hown ⟨bs.toArray⟩ (by rw [hs]; simp [maxLen]; omega) (by rw [hs]; omega) hB
 have hc : Lib.strCells ⟨bs.toArray⟩ = bs.map byteV := by simp [Lib.strCells, byteV]
 rw [hs, hc] at h2
 refine run_callBuiltin (b := .append) (r := .ok v' w') (fun v2 w2 h' => ?_) ⟨v', w', by rw [hv, hx]; exact hr⟩
 rw [hv, hx] at h'
 have e1 : (Builtin.append_ #[t, tu] ty #[v, .string ⟨bs.toArray⟩]).run P w = .ok v2 w2 := h'
 rw [hr] at e1
 cases e1
 have hl : l.length + bs.length = (l ++ bs.map byteV).length := by simp
 rw [hl] at h2
 exact h v' w' h2 (grown_keep h3 (run_drawn _ _ _ _ hr))
theorem op_sliceData {x : Operand} {ts : Array TypeId} {u v : Value} {w' : World} (hx : ρ x = u) (hr : (Builtin.unsafeSliceData_ ts ty #[u]).run P w = .ok v w') (h : K v w') :
  opW P ⟨d, .call ⟨.builtin .unsafeSliceData, #[x], ts⟩, ty, ps, af, g⟩ ρ w K := by
 simp only [opW, execOp, Sem.run_bind, resolve]
 simp only [Sem.run_pure, Result.andThen_ok, invoke, builtin]
 exact opR_val (s := Builtin.unsafeSliceData_ ts ty (Array.map ρ #[x])) (by simpa [hx] using hr) h
theorem op_unsafeString {x y : Operand} {ts : Array TypeId} {u z v : Value} {w' : World} (hx : ρ x = u) (hy : ρ y = z) (hr : (Builtin.unsafeString_ ts ty #[u, z]).run P w = .ok v w') (h : K v w') :
  opW P ⟨d, .call ⟨.builtin .unsafeString, #[x, y], ts⟩, ty, ps, af, g⟩ ρ w K := by
 simp only [opW, execOp, Sem.run_bind, resolve]
 simp only [Sem.run_pure, Result.andThen_ok, invoke, builtin]
 exact opR_val (s := Builtin.unsafeString_ ts ty (Array.map ρ #[x, y])) (by simpa [hx, hy] using hr) h
end
end Go.Proofs.YtopbbjdembnfdaaGreat
