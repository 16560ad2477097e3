/-
  Texts of a proof, joined: B4, B5, B6, M5cm, E8, K23, B0, L2, B1, B2, B3, K24, E9.
  Conditions: none.
-/
import Derived.Test.YtopbbjdembnfdaaGreatJF06
import Derived.Test.YtopbbjdembnfdaaGreatJF02
import Derived.Test.YtopbbjdembnfdaaGreatJF03
import Derived.Lib.Builder
import Derived.Lib.AppendStr
import Derived.Lib.UnsafeStr
import Derived.Test.YtopbbjdembnfdaaGreatProg
import Derived.Shelf.Small.Strs
import Derived.Shelf.Strings.Builder1
import Derived.MapFrom
set_option linter.unusedVariables false
set_option linter.unusedSimpArgs false
set_option linter.defProp false
set_option linter.unnecessarySimpa false
namespace Go.Proofs.YtopbbjdembnfdaaGreat
open Go
set_option maxRecDepth 10000

def errL (l : Lab) : Int := if l = [] then 8 else if 63 < l.length then 3 else 0
def lenN (n : Nm) : Nat := 1 + (n.map fun l => 1 + l.length).sum
def checkN (n : Nm) : Int := match n.find? (fun l => decide (errL l ≠ 0)) with
 | some l => errL l
 | Option.none => if 255 < lenN n then 3 else 0

theorem LCheck_ok (w : World) (l : Lab) (hl : l.length ≤ 9000000000000000000) : Fn Tryz.prog 168 #[vs l] w (fun v w' => v = vi (errL l) ∧ Ext w w') := by
 refine enter Tryz.func168 Tryz.ntmps168 rfl rfl ?_
 repeat refine c_r ?_
 refine rg0 ?_
 repeat refine c_r ?_
 refine rg0 ?_
 repeat refine c_r ?_
 refine wc0 ?_ ?_
 ·intro h
  simp only [decide_eq_true_eq] at h
  repeat (first | refine c_r ?_ | refine rg0 ?_)
  refine rt0 Tryz.ntmps168 ?_
  exact ⟨by unfold errL; rw [if_pos h], Keep.refl _ _⟩
 intro h
 simp only [decide_eq_false_iff_not] at h
 repeat refine c_r ?_
 refine rg0 ?_
 repeat refine c_r ?_
 refine wc0 ?_ ?_
 ·intro h2
  simp only [decide_eq_true_eq] at h2
  repeat (first | refine c_r ?_ | refine rg0 ?_)
  refine rt0 Tryz.ntmps168 ?_
  exact ⟨by unfold errL; rw [if_neg h, if_pos (by omega)], Keep.refl _ _⟩
 ·intro h2
  simp only [decide_eq_false_iff_not] at h2
  repeat (first | refine c_r ?_ | refine rg0 ?_)
  refine rt0 Tryz.ntmps168 ?_
  exact ⟨by unfold errL; rw [if_neg h, if_neg (by omega)], Keep.refl _ _⟩
theorem RCheckLabel_ok (w : World) (l : Lab) (hl : l.length ≤ 9000000000000000000) : Fn Tryz.prog 123 #[vs l] w (fun v w' => v = vi (errL l) ∧ Ext w w') := by
 refine enter Tryz.func123 Tryz.ntmps123 rfl rfl ?_
 repeat refine c_r ?_
 refine rg0 ?_
 repeat refine c_r ?_
 refine rg0 ?_
 repeat refine c_r ?_
 refine wc0 ?_ ?_
 ·intro h
  simp only [decide_eq_true_eq] at h
  repeat (first | refine c_r ?_ | refine rg0 ?_)
  refine rt0 Tryz.ntmps123 ?_
  exact ⟨by unfold errL; rw [if_pos h], Keep.refl _ _⟩
 intro h
 simp only [decide_eq_false_iff_not] at h
 repeat refine c_r ?_
 refine rg0 ?_
 repeat refine c_r ?_
 refine wc0 ?_ ?_
 ·intro h2
  simp only [decide_eq_true_eq] at h2
  repeat (first | refine c_r ?_ | refine rg0 ?_)
  refine rt0 Tryz.ntmps123 ?_
  exact ⟨by unfold errL; rw [if_neg h, if_pos (by omega)], Keep.refl _ _⟩
 ·intro h2
  simp only [decide_eq_false_iff_not] at h2
  repeat (first | refine c_r ?_ | refine rg0 ?_)
  refine rt0 Tryz.ntmps123 ?_
  exact ⟨by unfold errL; rw [if_neg h, if_neg (by omega)], Keep.refl _ _⟩

theorem sum_take {n : Nm} {i : Nat} (hi : i < n.length) (f : Lab → Nat) : ((n.take (i + 1)).map f).sum = ((n.take i).map f).sum + f n[i] := by
 rw [take_succ' hi, List.map_append, List.sum_append, List.map_cons, List.map_nil, List.sum_cons, List.sum_nil, Nat.add_zero]
theorem sum_bound : ∀ (k : Nm), (∀ l ∈ k, l.length ≤ 1000000000) → (k.map fun l => 1 + l.length).sum ≤ 1000000001 * k.length
 | [], _ => by simp
 | x :: k, h => by
  have h3 := sum_bound k (fun l hl => h l (List.mem_cons_of_mem _ hl))
  have h4 := h x (List.mem_cons_self ..)
  rw [List.map_cons, List.sum_cons, List.length_cons]; omega

theorem RLen_ok (w : World) (nv : Value) (n : Nm) (hn : Row w nv (n.map vs)) (hl : ∀ l ∈ n, l.length ≤ 1000000000) (hnl : n.length ≤ 1000000000) :
  Fn Tryz.prog 124 #[nv] w (fun v w' => v = vi (lenN n) ∧ Ext w w') := by
 obtain ⟨an, cn, rfl, hcn, hgn⟩ := hn
 simp only [List.length_map] at hcn hgn
 rw [List.length_map]
 refine enter Tryz.func124 Tryz.ntmps124 rfl rfl ?_
 repeat refine c_r ?_
 refine rg0 ?_
 repeat refine c_r ?_
 refine rg0 ?_
 repeat refine c_r ?_
 refine rg0 ?_
 repeat refine c_r ?_
 refine W_loop (fun m σ ds A => ds = [] ∧ ∃ (i : Nat), i + m = n.length ∧ σ 4 = vi i ∧ σ 0 = .slice an n.length cn ∧ σ 3 = vi (lenN (n.take i)) ∧ Ext w A) n.length ?_ ?_
 ·exact ⟨rfl, 0, by omega, vr0, vq0, vr0, Keep.refl _ _⟩
 rintro m σ ds A ⟨rfl, i, him, h4, h0, h3, hEA⟩
 repeat refine c_r ?_
 refine rg2 h4 h0 ?_
 repeat refine c_r ?_
 refine wc0 ?_ ?_
 ·intro hlt
  simp only [decide_eq_true_eq] at hlt
  have hi : i < n.length := by omega
  have hi0 : (0 : Int) ≤ (i : Int) := by omega
  have hi1 : (i : Int) < (n.length : Int) := by omega
  have hi1' : (i : Int) + 1 = ((i + 1 : Nat) : Int) := by push_cast; rfl
  have hg := cellO_ext hEA (hgn i (by simpa using hi))
  rw [List.getElem_map] at hg
  obtain ⟨xn, rfl⟩ := Option.isSome_iff_exists.1 (some_of_cellO hg)
  have hb := sum_bound (n.take i) (fun l hl' => hl l (List.mem_of_mem_take hl'))
  rw [List.length_take] at hb
  have hb2 := hl n[i] (List.getElem_mem hi)
  have hs : ((n.take (i + 1)).map fun l => 1 + l.length).sum = ((n.take i).map fun l => 1 + l.length).sum + (1 + n[i].length) := sum_take hi _
  have hlen : ((lenN (n.take i) : Nat) : Int) + 1 + ((n[i]).length : Int) = ((lenN (n.take (i + 1)) : Nat) : Int) := by unfold lenN; rw [hs]; omega
  have hln : lenN (n.take i) ≤ 2000000000000000000 := by
   unfold lenN
   have : min i n.length ≤ 1000000000 := by omega
   omega
  repeat refine c_r ?_
  refine rg7 h0 h3 h4 hi0 hi1 hg hlen ?_
  repeat refine c_r ?_
  refine rg2 h4 hi1' ?_
  repeat refine c_r ?_
  exact ⟨m - 1, by omega, rfl, i + 1, by omega, vq0, (vq1 h0), vq0, hEA⟩
 ·intro hge
  simp only [decide_eq_false_iff_not] at hge
  rw [List.take_of_length_le (by omega)] at h3
  repeat refine c_r ?_
  refine rg1 h3 ?_
  repeat refine c_r ?_
  refine rt1 h3 Tryz.ntmps124 ?_
  exact ⟨rfl, hEA⟩
end Go.Proofs.YtopbbjdembnfdaaGreat

namespace Go.Proofs.YtopbbjdembnfdaaGreat
open Go
set_option maxRecDepth 10000

def encL (x : Lab) (_ : World) (args : Array Value) : Prop := args = #[vs x]

theorem revDrop {n : Nm} {k : Nat} (hk : k < n.length) : (n.take (k + 1)).reverse = n[k] :: (n.take k).reverse := by
 rw [take_succ' hk]; simp

theorem labelsIt {W0 : World} {C : Nat → Prop} {bn : Nat} {nv : Value} {n : Nm} (hbn : W0.heap[bn]? = some (.cells #[nv] 23 (0, 0))) (hn : Row W0 nv (n.map vs)) (hC1 : ¬ C bn) (hCw : n ≠ [] → ∀ b, C b → b < W0.heap.size → ∀ a m c, nv = .slice (some a) m c → a.block ≠ b) (hnl : n.length ≤ 1000000000000)
  (hnb : n ≠ [] → ∀ a m c, nv = .slice (some a) m c → a.block < W0.heap.size) :
  Iter Tryz.prog 234 #[.pointer (some ⟨bn, 0, Option.none⟩)] W0 W0.heap.size C n.reverse encL := by
 intro lp J Jx W hW hnW hJ hJx hY h0
 obtain ⟨an, cn, rfl, hcn, hgn⟩ := hn
 simp only [List.length_map] at hcn hgn hbn hCw hnb
 have hln := (Array.getElem?_eq_some_iff.1 hbn).1
 have p0 : cellO W (some ⟨bn, 0, Option.none⟩) = some (.slice an n.length cn) := cellO_ext hW (cellO_at hbn rfl)
 refine enter Tryz.func234 Tryz.ntmps234 rfl rfl ?_
 repeat refine c_r ?_
 refine rg2 p0 Nat.add_zero ?_
 repeat refine c_r ?_
 refine W_loop (fun m σ ds v => ds = [] ∧ ∃ (pre : List Lab) (k : Nat), n.reverse = pre ++ (n.take k).reverse ∧ k ≤ m ∧ k ≤ n.length ∧ σ 3 = vi ((k : Int) - 1) ∧ σ 0 = .func (.yield lp) #[] #[] ∧ σ 1 = .pointer (some ⟨bn, 0, Option.none⟩) ∧ J pre v ∧ KeepB W0.heap.size C W v) n.length ?_ ?_
 ·exact ⟨rfl, [], n.length, by simp, Nat.le_refl _, Nat.le_refl _, vq0, vq0, vq0, h0, KeepB.refl _ _ _⟩
 rintro m σ ds v ⟨rfl, pre, k, hd, hkm, hkn, h3, hs0, hs1, hjj, hKB⟩
 have p1 : cellO v (some ⟨bn, 0, Option.none⟩) = some (.slice an n.length cn) := cell_keepB hKB hln hC1 p0
 repeat refine c_r ?_
 refine rg1 h3 ?_
 repeat refine c_r ?_
 refine wc0 ?_ ?_
 ·intro hge
  simp only [decide_eq_true_eq, ge_iff_le] at hge
  obtain ⟨j, rfl⟩ : ∃ j, k = j + 1 := ⟨k - 1, by omega⟩
  have hj : j < n.length := by omega
  have ej : ((j + 1 : Nat) : Int) - 1 = (j : Int) := by omega
  rw [ej] at h3
  have hj0 : (0 : Int) ≤ (j : Int) := by omega
  have hj1 : (j : Int) < (n.length : Int) := by omega
  have hg := hgn j (by simpa using hj)
  rw [List.getElem_map] at hg
  obtain ⟨xn, rfl⟩ := Option.isSome_iff_exists.1 (some_of_cellO hg)
  have hnn : n ≠ [] := List.length_pos_iff.1 (by omega)
  have hgv : cellO v (adr (some xn) j) = some (vs n[j]) := by
   have hb := hnb hnn xn _ _ rfl
   have h1 := cellO_ext hW hg
   refine cell_keepB hKB (by rw [block_add]; exact hb) (fun hc => ?_) h1
   rw [block_add] at hc
   exact hCw hnn _ hc hb xn _ _ rfl rfl
  have hxs : n.reverse = pre ++ n[j] :: (n.take j).reverse := by rw [hd, revDrop hj]
  repeat refine c_r ?_
  refine rq ?_; intro gd K hgd hK
  try simp (disch := first | omega | assumption | rfl) only [↓reduceIte, go_sem, Nat.reduceLT, Nat.reduceEqDiff, Nat.reduceSub, h3, hs0, hs1, p1, hj0, hj1, hgv]
  refine Yld.mono (hY pre n[j] (n.take j).reverse v _ hxs hjj hKB rfl) ?_
  rintro u x (⟨rfl, hj', hk'⟩ | ⟨rfl, hjx⟩)
  ·try simp (disch := first | omega | assumption | rfl) only [↓reduceIte, go_sem, Nat.reduceLT, Nat.reduceEqDiff, Nat.reduceSub]
   refine hK _ _ ?_; clear hK hgd; clear K; try clear gd
   repeat refine c_r ?_
   refine wc0 ?_ ?_
   ·intro h; simp at h
   ·intro _
    repeat refine c_r ?_
    refine rg1 h3 ?_
    refine thenQ_normal ?_
    exact ⟨m - 1, by omega, rfl, pre ++ [n[j]], j, by rw [hxs]; simp, by omega, by omega, vq0, (vq1 hs0), (vq1 hs1), hj', hKB.trans hk'⟩
  ·try simp (disch := first | omega | assumption | rfl) only [↓reduceIte, go_sem, Nat.reduceLT, Nat.reduceEqDiff, Nat.reduceSub]
   refine hK _ _ ?_; clear hK hgd; clear K; try clear gd
   repeat refine c_r ?_
   refine wc0 ?_ ?_
   ·intro _
    repeat refine c_r ?_
    refine ret_none (by simp) rfl (.inr ⟨_, _, _, hxs, hjx⟩)
   ·intro h; simp at h
 ·intro hge
  simp only [decide_eq_false_iff_not, ge_iff_le] at hge
  have hk0 : k = 0 := by omega
  subst hk0
  repeat refine c_r ?_
  refine ret_none (by simp) rfl (.inl ?_)
  rw [hd]; simpa using hjj

theorem labels_ok {w : World} {nv : Value} (hn : ∃ a n c, nv = .slice a n c) :
  Fn Tryz.prog 206 #[nv] w (fun v w' => v = .func (.func 234) #[] #[.pointer (some ⟨w.heap.size, 0, Option.none⟩)] ∧ Ext w w' ∧ w'.heap.size = w.heap.size + 1 ∧ w'.heap[w.heap.size]? = some (.cells #[nv] 23 (0, 0))) := by
 obtain ⟨an, nn, cn, rfl⟩ := hn
 refine enter Tryz.func206 Tryz.ntmps206 rfl rfl ?_
 repeat refine c_r ?_
 refine rg0 ?_
 repeat refine c_r ?_
 refine W_alloc1 ?_
 intro w1 hE1 hs1 hA
 refine rg0 ?_
 repeat refine c_r ?_
 refine rt0 Tryz.ntmps206 ?_
 exact ⟨rfl, hE1, hs1, hA⟩

theorem row_lt {w : World} {nv : Value} {l : List Value} (h : Row w nv l) (h0 : l ≠ []) : ∀ a m c, nv = .slice (some a) m c → a.block < w.heap.size := by
 intro a m c hv
 obtain ⟨a', c', e, hc, hg⟩ := h
 rw [hv] at e
 injection e with e1
 have h1 := hg 0 (List.length_pos_iff.2 h0)
 rw [← e1] at h1
 have := cell_lt (show w.cell? (a.add 0) = some _ from h1)
 rwa [block_add] at this

theorem NLen_ok (w : World) (nv : Value) (n : Nm) (hn : Row w nv (n.map vs)) (hl : ∀ l ∈ n, l.length ≤ 1000000000) (hnl : n.length ≤ 1000000000) :
  Fn Tryz.prog 169 #[nv] w (fun v w' => v = vi (lenN n) ∧ Ext w w') := by
 have hn0 := hn
 obtain ⟨an, cn, hnv, _⟩ := id hn
 rw [hnv]
 refine enter Tryz.func169 Tryz.ntmps169 rfl rfl ?_
 repeat refine c_r ?_
 refine rg0 ?_
 repeat refine c_r ?_
 rw [← hnv]
 refine rq ?_; intro gd K hgd hK
 try simp (disch := first | omega | assumption | rfl) only [↓reduceIte, go_sem, Nat.reduceLT, Nat.reduceEqDiff, Nat.reduceSub]
 have hB3 := new_block w (.cells #[vi 0] 3 (0, 0))
 have hE4 := Ext.alloc w (.cells #[vi 0] 3 (0, 0))
 have hs4 := new_size w (.cells #[vi 0] 3 (0, 0))
 revert hB3 hE4 hs4
 generalize w.alloc (.cells #[vi 0] 3 (0, 0)) = w1
 intro hB3 hE4 hs4
 refine sv_at (P := Tryz.prog) (t := 3) (j := 0) (l := [vi 0]) hB3 (by simp) rfl rfl rfl ?_
 intro w2 hs2 hB2 hk2
 try simp (disch := first | omega | assumption | rfl) only [↓reduceIte, go_sem, Nat.reduceLT, Nat.reduceEqDiff, Nat.reduceSub]
 refine hK _ _ ?_; clear hK hgd; clear K; try clear gd
 simp only [List.set_cons_zero] at hB2
 have hE2 : Ext w w2 := Keep.to_ext hE4 rfl (fun b hb => by omega) hk2
 repeat refine c_r ?_
 refine rq ?_; intro gd K hgd hK
 try simp (disch := first | omega | assumption | rfl) only [↓reduceIte, go_sem, Nat.reduceLT, Nat.reduceEqDiff, Nat.reduceSub]
 refine Fn.mono (labels_ok ⟨_, _, _, hnv⟩) ?_
 rintro _ w3 ⟨rfl, hE3, hs3, hbn⟩
 try simp (disch := first | omega | assumption | rfl) only [↓reduceIte, go_sem, Nat.reduceLT, Nat.reduceEqDiff, Nat.reduceSub]
 refine hK _ _ ?_; clear hK hgd; clear K; try clear gd
 have hE23 := hE2.trans hE3
 have hB2' := hE3.at hB2
 have hn3 := hn.ext hE23
 have hlt : n ≠ [] → ∀ a m c, nv = .slice (some a) m c → a.block < w.heap.size := fun hnn => row_lt hn (by simpa using hnn)
 repeat refine c_r ?_
 refine W_range (g := 234) (cap := #[.pointer (some ⟨w2.heap.size, 0, Option.none⟩)]) (vq0) rfl (labelsIt (C := fun b => b = w.heap.size) hbn hn3 (by omega) (fun h0 b hb _ a m c hv => by have := hlt h0 a m c hv; omega) (by omega) (fun h0 a m c hv => by have := hlt h0 a m c hv; omega)) (Keep.refl _ _) (Nat.le_refl _) (fun b hb => by omega)
  (fun x A args h => by rw [h]; rfl)
  (fun pre A => Ext w A ∧ A.heap[w.heap.size]? = some (.cells #[vi (1 + (pre.map fun l => 1 + l.length).sum : Nat)] 3 (0, 0)))
  (fun _ _ _ => False) ?_ (fun _ _ _ _ h _ => h.elim) ?_ ?_ ?_ (fun _ _ _ _ _ _ _ h _ => h.elim)
 ·rintro pre A B ⟨h1, h2⟩ hk
  exact ⟨Keep.to_ext h1 rfl (fun b hb => by unfold two at hb; omega) hk, (hk.block _ (Array.getElem?_eq_some_iff.1 h2).1 (by unfold two; omega)).trans h2⟩
 ·exact ⟨hE23, hB2'⟩
 ·rintro lp pre x suf A args hxs hszA ⟨hEA, hb⟩ rfl
  have hpl : pre.length + 1 ≤ n.length := by
   have := congrArg List.length hxs
   simp at this; omega
  have hpm : ∀ l ∈ pre, l.length ≤ 1000000000 := fun l hl' => hl l (List.mem_reverse.1 (by rw [hxs]; simp [hl']))
  have hxm : x.length ≤ 1000000000 := hl x (List.mem_reverse.1 (by rw [hxs]; simp))
  have hsb := sum_bound pre hpm
  have hsum : (((1 + (pre.map fun l => 1 + l.length).sum : Nat) : Int)) + (1 + (x.length : Int)) = ((1 + ((pre ++ [x]).map fun l => 1 + l.length).sum : Nat) : Int) := by
   rw [List.map_append, List.sum_append, List.map_cons, List.map_nil, List.sum_cons, List.sum_nil]; omega
  have hs2' : ((1 + (pre.map fun l => 1 + l.length).sum : Nat) : Int) ≤ 2000000000000000000 := by omega
  refine rq ?_; intro gd K hgd hK
  try simp (disch := first | omega | assumption | rfl) only [↓reduceIte, go_sem, Nat.reduceLT, Nat.reduceEqDiff, Nat.reduceSub]
  refine hK _ _ ?_; clear hK hgd; clear K; try clear gd
  refine thenQ_normal ?_
  refine ⟨rfl, KeepB.refl _ _ _, fun Y hY => ?_⟩
  have hbY := (hY.block _ (by omega) (by unfold two; omega)).trans hb
  have hEY : Ext w Y := Keep.to_ext hEA rfl (fun b hb => by unfold two at hb; omega) hY
  have hsY := hY.size
  have q0 : cellO Y (some ⟨w.heap.size, 0, Option.none⟩) = some (vi (1 + (pre.map fun l => 1 + l.length).sum : Nat)) := cellO_at hbY rfl
  repeat refine c_r ?_
  refine rq ?_; intro gd K hgd hK
  try simp (disch := first | omega | assumption | rfl) only [↓reduceIte, go_sem, Nat.reduceLT, Nat.reduceEqDiff, Nat.reduceSub, q0, hsum]
  refine sv_at (P := Tryz.prog) (t := 3) (j := 0) (l := [vi (1 + (pre.map fun l => 1 + l.length).sum : Nat)]) hbY (by simp) rfl rfl rfl ?_
  intro z hz hbz hkz
  try simp (disch := first | omega | assumption | rfl) only [↓reduceIte, go_sem, Nat.reduceLT, Nat.reduceEqDiff, Nat.reduceSub]
  refine hK _ _ ?_; clear hK hgd; clear K; try clear gd
  simp only [List.set_cons_zero] at hbz
  repeat refine c_r ?_
  exact ⟨⟨Keep.to_ext hEY rfl (fun b hb => by omega) hkz, hbz⟩, hkz.toB (by omega) (fun i _ h => h)⟩
 ·intro A hszA ⟨hEA, hb⟩ hD
  have q0 : cellO A (some ⟨w.heap.size, 0, Option.none⟩) = some (vi (1 + (n.reverse.map fun l => 1 + l.length).sum : Nat)) := cellO_at hb rfl
  have hrev : (n.reverse.map fun l => 1 + l.length).sum = (n.map fun l => 1 + l.length).sum := by rw [List.map_reverse, List.sum_reverse]
  rw [hrev] at q0
  repeat refine c_r ?_
  refine rg1 q0 ?_
  repeat refine c_r ?_
  refine ret_mark (v := vi (lenN n)) (.inr rfl) (by rfl) Tryz.ntmps169 (vr0) hD ?_
  intro Z hkZ hsZ
  exact ⟨rfl, Keep.to_ext hEA rfl (fun b hb => by omega) hkZ⟩
end Go.Proofs.YtopbbjdembnfdaaGreat

namespace Go.Proofs.YtopbbjdembnfdaaGreat
open Go
set_option maxRecDepth 10000

theorem checkN_bad {n : Nm} {i : Nat} (hi : i < n.length) (h : ∀ j (h : j < n.length), j < i → errL n[j] = 0) (he : errL n[i] ≠ 0) : checkN n = errL n[i] := by
 unfold checkN
 have : n.find? (fun l => decide (errL l ≠ 0)) = some n[i] := by
  refine findL_at (pre := n.take i) (suf := n.drop (i + 1)) (split_at hi) (fun y hy => ?_) (by simpa using he)
  obtain ⟨j, hj, rfl⟩ := List.getElem_of_mem hy
  rw [List.getElem_take]
  simp at hj
  simpa using h j (by omega) (by omega)
 rw [this]
theorem checkN_good {n : Nm} (h : ∀ j (h : j < n.length), errL n[j] = 0) : checkN n = if 255 < lenN n then 3 else 0 := by
 unfold checkN
 have : n.find? (fun l => decide (errL l ≠ 0)) = Option.none := findL_none (fun y hy => by
  obtain ⟨j, hj, rfl⟩ := List.getElem_of_mem hy
  simpa using h j hj)
 rw [this]

theorem RCheckName_ok (w : World) (nv : Value) (n : Nm) (hn : Row w nv (n.map vs)) (hl : ∀ l ∈ n, l.length ≤ 1000000000) (hnl : n.length ≤ 1000000000) :
  Fn Tryz.prog 57 #[nv] w (fun v w' => v = vi (checkN n) ∧ Ext w w') := by
 have hn0 := hn
 obtain ⟨an, cn, rfl, hcn, hgn⟩ := hn
 simp only [List.length_map] at hcn hgn hn0
 rw [List.length_map]
 refine enter Tryz.func57 Tryz.ntmps57 rfl rfl ?_
 repeat refine c_r ?_
 refine rg0 ?_
 repeat refine c_r ?_
 refine rg0 ?_
 repeat refine c_r ?_
 refine W_loop (fun m σ ds A => ds = [] ∧ ∃ (i : Nat), i + m = n.length ∧ σ 3 = vi i ∧ σ 0 = .slice an n.length cn ∧ Ext w A ∧ ∀ j (h : j < n.length), j < i → errL n[j] = 0) n.length ?_ ?_
 ·exact ⟨rfl, 0, by omega, vr0, vq0, Keep.refl _ _, fun j h hj => absurd hj (by omega)⟩
 rintro m σ ds A ⟨rfl, i, him, h3, h0, hEA, hlow⟩
 repeat refine c_r ?_
 refine rg2 h3 h0 ?_
 repeat refine c_r ?_
 refine wc0 ?_ ?_
 ·intro hlt
  simp only [decide_eq_true_eq] at hlt
  have hi : i < n.length := by omega
  have hi0 : (0 : Int) ≤ (i : Int) := by omega
  have hi1 : (i : Int) < (n.length : Int) := by omega
  have hi1' : (i : Int) + 1 = ((i + 1 : Nat) : Int) := by push_cast; rfl
  have hg := cellO_ext hEA (hgn i (by simpa using hi))
  rw [List.getElem_map] at hg
  obtain ⟨xn, rfl⟩ := Option.isSome_iff_exists.1 (some_of_cellO hg)
  repeat refine c_r ?_
  refine rq ?_; intro gd K hgd hK
  try simp (disch := first | omega | assumption | rfl) only [↓reduceIte, go_sem, Nat.reduceLT, Nat.reduceEqDiff, Nat.reduceSub, h0, h3, hi0, hi1, hg]
  refine Fn.mono (RCheckLabel_ok A n[i] (by have := hl n[i] (List.getElem_mem hi); omega)) ?_
  rintro _ A1 ⟨rfl, hE1⟩
  try simp (disch := first | omega | assumption | rfl) only [↓reduceIte, go_sem, Nat.reduceLT, Nat.reduceEqDiff, Nat.reduceSub]
  refine hK _ _ ?_; clear hK hgd; clear K; try clear gd
  repeat refine c_r ?_
  refine rg0 ?_
  repeat refine c_r ?_
  refine wc0 ?_ ?_
  ·intro hne
   simp only [Bool.not_eq_true', decide_eq_false_iff_not] at hne
   repeat (first | refine c_r ?_ | refine rg0 ?_)
   refine rt0 Tryz.ntmps57 ?_
   exact ⟨by rw [checkN_bad hi hlow hne], hEA.trans hE1⟩
  ·intro heq
   simp only [Bool.not_eq_false', decide_eq_true_eq] at heq
   repeat refine c_r ?_
   refine rg2 h3 hi1' ?_
   repeat refine c_r ?_
   refine ⟨m - 1, by omega, rfl, i + 1, by omega, vq0, (vq1 h0), hEA.trans hE1, fun j hj hji => ?_⟩
   by_cases hj2 : j = i
   ·subst hj2; exact heq
   ·exact hlow j hj (by omega)
 ·intro hge
  simp only [decide_eq_false_iff_not] at hge
  have hgood := checkN_good (n := n) (fun j hj => hlow j hj (by omega))
  repeat refine c_r ?_
  refine rq ?_; intro gd K hgd hK
  try simp (disch := first | omega | assumption | rfl) only [↓reduceIte, go_sem, Nat.reduceLT, Nat.reduceEqDiff, Nat.reduceSub, h0]
  refine Fn.mono (RLen_ok A _ n (hn0.ext hEA) hl hnl) ?_
  rintro _ A1 ⟨rfl, hE1⟩
  try simp (disch := first | omega | assumption | rfl) only [↓reduceIte, go_sem, Nat.reduceLT, Nat.reduceEqDiff, Nat.reduceSub]
  refine hK _ _ ?_; clear hK hgd; clear K; try clear gd
  repeat refine c_r ?_
  refine wc0 ?_ ?_
  ·intro hb
   simp only [decide_eq_true_eq] at hb
   repeat (first | refine c_r ?_ | refine rg0 ?_)
   refine rt0 Tryz.ntmps57 ?_
   exact ⟨by rw [hgood, if_pos (by omega)], hEA.trans hE1⟩
  ·intro hb
   simp only [decide_eq_false_iff_not] at hb
   repeat (first | refine c_r ?_ | refine rg0 ?_)
   refine rt0 Tryz.ntmps57 ?_
   exact ⟨by rw [hgood, if_neg (by omega)], hEA.trans hE1⟩

theorem NCheck_ok (w : World) (nv : Value) (n : Nm) (hn : Row w nv (n.map vs)) (hl : ∀ l ∈ n, l.length ≤ 1000000000) (hnl : n.length ≤ 1000000000) :
  Fn Tryz.prog 118 #[nv] w (fun v w' => v = vi (checkN n) ∧ Ext w w') := by
 have hn0 := hn
 obtain ⟨an, cn, rfl, hcn, hgn⟩ := hn
 simp only [List.length_map] at hcn hgn hn0
 rw [List.length_map]
 refine enter Tryz.func118 Tryz.ntmps118 rfl rfl ?_
 repeat refine c_r ?_
 refine rg0 ?_
 repeat refine c_r ?_
 refine rg0 ?_
 repeat refine c_r ?_
 refine W_loop (fun m σ ds A => ds = [] ∧ ∃ (i : Nat), i + m = n.length ∧ σ 8 = vi i ∧ σ 7 = vi n.length ∧ σ 6 = .slice an n.length cn ∧ σ 0 = .slice an n.length cn ∧ Ext w A ∧ ∀ j (h : j < n.length), j < i → errL n[j] = 0) n.length ?_ ?_
 ·exact ⟨rfl, 0, by omega, vr0, vq0, vq0, vq0, Keep.refl _ _, fun j h hj => absurd hj (by omega)⟩
 rintro m σ ds A ⟨rfl, i, him, h8, h7, h6, h0, hEA, hlow⟩
 repeat refine c_r ?_
 refine rg2 h8 h7 ?_
 repeat refine c_r ?_
 refine wc0 ?_ ?_
 ·intro hlt
  simp only [decide_eq_true_eq] at hlt
  have hi : i < n.length := by omega
  have hi0 : (0 : Int) ≤ (i : Int) := by omega
  have hi1 : (i : Int) < (n.length : Int) := by omega
  have hi1' : (i : Int) + 1 = ((i + 1 : Nat) : Int) := by push_cast; rfl
  have hg := cellO_ext hEA (hgn i (by simpa using hi))
  rw [List.getElem_map] at hg
  obtain ⟨xn, rfl⟩ := Option.isSome_iff_exists.1 (some_of_cellO hg)
  repeat refine c_r ?_
  refine rg5 h6 h8 hi0 hi1 hg ?_
  repeat refine c_r ?_
  refine rq ?_; intro gd K hgd hK
  try simp (disch := first | omega | assumption | rfl) only [↓reduceIte, go_sem, Nat.reduceLT, Nat.reduceEqDiff, Nat.reduceSub]
  refine Fn.mono (LCheck_ok A n[i] (by have := hl n[i] (List.getElem_mem hi); omega)) ?_
  rintro _ A1 ⟨rfl, hE1⟩
  try simp (disch := first | omega | assumption | rfl) only [↓reduceIte, go_sem, Nat.reduceLT, Nat.reduceEqDiff, Nat.reduceSub]
  refine hK _ _ ?_; clear hK hgd; clear K; try clear gd
  repeat refine c_r ?_
  refine rg0 ?_
  repeat refine c_r ?_
  refine wc0 ?_ ?_
  ·intro hne
   simp only [Bool.not_eq_true', decide_eq_false_iff_not] at hne
   repeat (first | refine c_r ?_ | refine rg0 ?_)
   refine rt0 Tryz.ntmps118 ?_
   exact ⟨by rw [checkN_bad hi hlow hne], hEA.trans hE1⟩
  ·intro heq
   simp only [Bool.not_eq_false', decide_eq_true_eq] at heq
   repeat refine c_r ?_
   refine rg2 h8 hi1' ?_
   repeat refine c_r ?_
   refine ⟨m - 1, by omega, rfl, i + 1, by omega, vq0, (vq1 h7), (vq1 h6), (vq1 h0), hEA.trans hE1, fun j hj hji => ?_⟩
   by_cases hj2 : j = i
   ·subst hj2; exact heq
   ·exact hlow j hj (by omega)
 ·intro hge
  simp only [decide_eq_false_iff_not] at hge
  have hgood := checkN_good (n := n) (fun j hj => hlow j hj (by omega))
  repeat refine c_r ?_
  refine rq ?_; intro gd K hgd hK
  try simp (disch := first | omega | assumption | rfl) only [↓reduceIte, go_sem, Nat.reduceLT, Nat.reduceEqDiff, Nat.reduceSub, h0]
  refine Fn.mono (NLen_ok A _ n (hn0.ext hEA) hl hnl) ?_
  rintro _ A1 ⟨rfl, hE1⟩
  try simp (disch := first | omega | assumption | rfl) only [↓reduceIte, go_sem, Nat.reduceLT, Nat.reduceEqDiff, Nat.reduceSub]
  refine hK _ _ ?_; clear hK hgd; clear K; try clear gd
  repeat refine c_r ?_
  refine wc0 ?_ ?_
  ·intro hb
   simp only [decide_eq_true_eq] at hb
   repeat (first | refine c_r ?_ | refine rg0 ?_)
   refine rt0 Tryz.ntmps118 ?_
   exact ⟨by rw [hgood, if_pos (by omega)], hEA.trans hE1⟩
  ·intro hb
   simp only [decide_eq_false_iff_not] at hb
   repeat (first | refine c_r ?_ | refine rg0 ?_)
   refine rt0 Tryz.ntmps118 ?_
   exact ⟨by rw [hgood, if_neg (by omega)], hEA.trans hE1⟩

def swapN (q f t : Nm) : Nm := q.take (q.length - f.length) ++ t
structure NmM (n : Nm) : Prop where
 lb : ∀ l ∈ n, l.length ≤ 1000000
 len : n.length ≤ 1000000
theorem NmM.LB {n : Nm} (h : NmM n) : LB n := fun l hl => by have := h.lb l hl; omega
theorem NmM.s {n : Nm} (h : NmM n) : NmS n := ⟨h.LB, by have := h.len; omega⟩

theorem swap_m {q f t : Nm} (hq : NmM q) (ht : NmM t) : (∀ l ∈ swapN q f t, l.length ≤ 1000000000) ∧ (swapN q f t).length ≤ 2000000 := by
 refine ⟨fun l hl => ?_, ?_⟩
 ·rcases List.mem_append.1 hl with h | h
  ·have := hq.lb l (List.mem_of_mem_take h); omega
  ·have := ht.lb l h; omega
 ·unfold swapN
  rw [List.length_append, List.length_take]
  have := hq.len
  have := ht.len
  omega

theorem NSwap_ok (w : World) (qv fv tv : Value) (q f t : Nm) (hq : Row w qv (q.map vs)) (hf : Row w fv (f.map vs)) (ht : Row w tv (t.map vs)) (mq : NmM q) (mf : NmM f) (mt : NmM t) (hu : under q f = true) :
  Fn Tryz.prog 52 #[qv, fv, tv] w (fun v w' => Ext w w' ∧ (checkN (swapN q f t) = 0 → ∃ sv, v = .tuple #[sv, vi 0] ∧ Row w' sv ((swapN q f t).map vs) ∧ BlkB w.heap.size w' sv) ∧ (checkN (swapN q f t) ≠ 0 → v = .tuple #[.slice Option.none 0 0, vi 7])) := by
 have hul := under_len hu
 obtain ⟨aq, cq, hqv, hcq, hgq⟩ := id hq
 obtain ⟨af, cf, hfv, _⟩ := id hf
 rw [List.length_map] at hqv hcq hfv
 have hfr : Row w (.slice aq (q.length - f.length) cq) ((q.take (q.length - f.length)).map vs) := by
  have hl : ((q.take (q.length - f.length)).map vs).length = q.length - f.length := by rw [List.length_map, List.length_take]; omega
  refine ⟨aq, cq, by rw [hl], by omega, fun j hj => ?_⟩
  have := hgq j (by rw [List.length_map]; omega)
  rw [this]; simp
 have hm := swap_m (f := f) mq mt
 have bq := mq.len
 have bf := mf.len
 have bt := mt.len
 refine enter Tryz.func52 Tryz.ntmps52 rfl rfl ?_
 repeat refine c_r ?_
 refine rg0 ?_
 repeat refine c_r ?_
 refine rq ?_; intro gd K hgd hK
 try simp (disch := first | omega | assumption | rfl) only [↓reduceIte, go_sem, Nat.reduceLT, Nat.reduceEqDiff, Nat.reduceSub]
 refine Fn.mono (Under_ok _ _ _ _ _ hq hf mq.LB mf.LB (by have := mq.len; omega) (by have := mf.len; omega)) ?_
 rintro _ w1 ⟨rfl, hE1⟩
 try simp (disch := first | omega | assumption | rfl) only [↓reduceIte, go_sem, Nat.reduceLT, Nat.reduceEqDiff, Nat.reduceSub]
 refine hK _ _ ?_; clear hK hgd; clear K; try clear gd
 rw [hu]
 repeat refine c_r ?_
 refine wc0 ?_ ?_
 ·intro h; cases h
 intro _
 have e1 : (q.length : Int) - (f.length : Int) = ((q.length - f.length : Nat) : Int) := by omega
 have e2 : (0 : Int) ≤ ((q.length - f.length : Nat) : Int) := by omega
 have e3 : ((q.length - f.length : Nat) : Int) ≤ (cq : Int) := by omega
 repeat refine c_r ?_
 refine rq ?_; intro gd K hgd hK
 try simp (disch := first | omega | assumption | rfl) only [↓reduceIte, go_sem, Nat.reduceLT, Nat.reduceEqDiff, Nat.reduceSub, hqv, hfv, e1, e2, e3, Nat.sub_zero, adr_zero, ite_self]
 refine Fn.mono (CloneS_ok (hfr.ext hE1) (by rw [List.length_take]; have := mq.len; omega)) ?_
 rintro u w2 ⟨hou, hE2⟩
 try simp (disch := first | omega | assumption | rfl) only [↓reduceIte, go_sem, Nat.reduceLT, Nat.reduceEqDiff, Nat.reduceSub]
 have hl2 : ((q.take (q.length - f.length)).map vs).length + (t.map vs).length ≤ 1000000000000 := by
  rw [List.length_map, List.length_map, List.length_take]; have := mq.len; have := mt.len; omega
 refine op_app hou (ht.ext (hE1.trans hE2)) (by rfl) (by rfl) (by rfl) (by rfl) (by rfl) (by rfl) (by rfl) (by rfl) (ones_vs _) hl2 (by decide) hE2.size ?_
 intro sv w3 hs hE3 _ _
 try simp (disch := first | omega | assumption | rfl) only [↓reduceIte, go_sem, Nat.reduceLT, Nat.reduceEqDiff, Nat.reduceSub]
 refine hK _ _ ?_; clear hK hgd; clear K; try clear gd
 have hE13 := hE3 w (hE1.trans hE2) hE1.size
 rw [← List.map_append] at hs
 have hsr : Row w3 sv ((swapN q f t).map vs) := hs.row
 obtain ⟨as1, cs1, hsv, hcs, hgs⟩ := id hsr
 rw [List.length_map] at hsv hcs
 repeat refine c_r ?_
 refine rq ?_; intro gd K hgd hK
 try simp (disch := first | omega | assumption | rfl) only [↓reduceIte, go_sem, Nat.reduceLT, Nat.reduceEqDiff, Nat.reduceSub]
 refine Fn.mono (NCheck_ok w3 _ (swapN q f t) hsr hm.1 (by have := hm.2; omega)) ?_
 rintro _ w4 ⟨rfl, hE4⟩
 try simp (disch := first | omega | assumption | rfl) only [↓reduceIte, go_sem, Nat.reduceLT, Nat.reduceEqDiff, Nat.reduceSub]
 refine hK _ _ ?_; clear hK hgd; clear K; try clear gd
 repeat refine c_r ?_
 refine wc0 ?_ ?_
 ·intro hne
  simp only [Bool.not_eq_true', decide_eq_false_iff_not] at hne
  repeat (first | refine c_r ?_ | refine rg0 ?_)
  refine ret_any (.inr rfl) Tryz.ntmps52 rfl (res_tmp (v := .slice Option.none 0 0) (vr0) (res_tmp (v := vi 7) (vr0) res_nil)) ?_
  exact ⟨hE13.trans hE4, fun h => absurd h hne, fun _ => rfl⟩
 ·intro heq
  simp only [Bool.not_eq_false', decide_eq_true_eq] at heq
  repeat refine c_r ?_
  refine rq ?_; intro gd K hgd hK
  try simp (disch := first | omega | assumption | rfl) only [↓reduceIte, go_sem, Nat.reduceLT, Nat.reduceEqDiff, Nat.reduceSub]
  rw [hsv]
  refine Fn.mono (P_cs.Clip_ok hcs) ?_
  rintro _ y0 ⟨rfl, hy0⟩
  try simp (disch := first | omega | assumption | rfl) only [↓reduceIte, go_sem, Nat.reduceLT, Nat.reduceEqDiff, Nat.reduceSub]
  rw [hy0]
  clear hy0 y0
  refine hK _ _ ?_; clear hK hgd; clear K; try clear gd
  repeat refine c_r ?_
  refine ret_any (.inr rfl) Tryz.ntmps52 rfl (res_tmp (v := .slice as1 (swapN q f t).length (swapN q f t).length) (vr0) (res_tmp (v := vi 0) (vr0) res_nil)) ?_
  have hbs := hs.blk
  rw [hsv] at hbs
  refine ⟨hE13.trans hE4, fun _ => ⟨_, rfl, ?_, (hbs.same.ext hE4.size).mono hE1.size⟩, fun h => absurd heq h⟩
  exact Row.ext (w := w3) ⟨as1, (swapN q f t).length, by rw [List.length_map], by rw [List.length_map]; exact Nat.le_refl _, hgs⟩ hE4

end Go.Proofs.YtopbbjdembnfdaaGreat

namespace Go.Proofs.YtopbbjdembnfdaaGreat.P_cm
open Go Go.Proofs.YtopbbjdembnfdaaGreat
set_option maxRecDepth 10000

theorem Clip_ok {w : World} {a : Option Addr} {n c : Nat} (hc : n ≤ c) : Fn Tryz.prog 166 #[.slice a n c] w (fun u w' => u = .slice a n n ∧ w' = w) := by
 refine enter Tryz.func166 Tryz.ntmps166 rfl rfl ?_
 repeat refine c_r ?_
 refine rg0 ?_
 repeat refine c_r ?_
 refine rq ?_; intro gd K hgd hK
 try simp (disch := first | omega | assumption | rfl) only [↓reduceIte, go_sem, Nat.reduceLT, Nat.reduceEqDiff, Nat.reduceSub]
 have hcl : slD Tryz.prog (some (TypeDesc.slice 23)) (Value.slice a n c) Option.none (some (Value.int IntKind.i64 ↑n)) (some (Value.int IntKind.i64 ↑n)) = some (.slice a n n) := s_clip hc (by rfl)
 rw [hcl]
 try simp (disch := first | omega | assumption | rfl) only [↓reduceIte, go_sem, Nat.reduceLT, Nat.reduceEqDiff, Nat.reduceSub]
 refine hK _ _ ?_; clear hK hgd; clear K; try clear gd
 repeat refine c_r ?_
 refine rt0 Tryz.ntmps166 ?_
 exact ⟨rfl, rfl⟩
end Go.Proofs.YtopbbjdembnfdaaGreat.P_cm

namespace Go.Proofs.YtopbbjdembnfdaaGreat
open Go
set_option maxRecDepth 10000

def NmC (w0 : World) (cs : List Value) (n : Nm) : Prop := ∃ v, cs = [v] ∧ Row w0 v (n.map vs)
theorem nm_shape (w : World) : Shape 1 (NmC w) := by
 refine ⟨fun h => ?_, fun h => ?_⟩
 ·obtain ⟨v, rfl, _⟩ := h; rfl
 ·obtain ⟨v, rfl, a, c, rfl, _⟩ := h
  intro q hq; rw [List.mem_singleton.1 hq]; rfl
theorem Own.k1 {B : Nat} {w : World} {e : TypeId} {v : Value} {l : List Value} (h : Own B w e v l) (h1 : ∀ q ∈ l, one q = true) : OwnK 1 B w e v (l.map fun q => [q]) := by
 have hf : ∀ l : List Value, (l.map fun q => [q]).flatten = l := fun l => by
  induction l with
  | nil => rfl
  | cons x l ih => rw [List.map_cons, List.flatten_cons, ih]; rfl
 refine ⟨by rw [hf, List.length_map]; exact h, fun x hx => ?_, fun x hx q hq => ?_⟩
 ·obtain ⟨q, _, rfl⟩ := List.mem_map.1 hx; rfl
 ·obtain ⟨q', hq', rfl⟩ := List.mem_map.1 hx
  rw [List.mem_singleton.1 hq]; exact h1 _ hq'

def leads (t : Int) : Bool := decide (t = 2) || (decide (t = 5) || (decide (t = 12) || (decide (t = 39) || decide (t = 15))))
def targetsL (t : Int) (ds : List DatL) : List Nm := if leads t then ds.filterMap fun d => d.names.head? else []

theorem DatAt.cells {w0 : World} {cs : List Value} {d : DatL} (h : DatAt w0 cs d) : ∃ nm, cs[0]? = some (vi d.ty) ∧ cs[1]? = some nm ∧ NamesAt w0 nm d.names := by
 obtain ⟨nm, nu, tx, rw', rfl, h1, _⟩ := h.ex
 exact ⟨nm, rfl, rfl, h1⟩

theorem cell_of_cells {w : World} {p : Option Addr} {k j : Nat} {cs : List Value} {u : Value} (h : cellsO w p k = some cs) (hj : cs[j]? = some u) : cellO w (adr p j) = some u := by
 obtain ⟨hj1, hj2⟩ := List.getElem?_eq_some_iff.1 hj
 have := cellsO_get h hj1
 rw [hj2] at this; exact this

theorem Targets_ok {w0 w : World} (hE0 : Ext w0 w) {ow tl dv : Value} {t : Int} {ds : List DatL} (how : one ow = true) (htl : one tl = true) (hd : Rows 5 (DatAt w0) w dv ds) (hlen : ds.length ≤ 1000000000) :
  Fn Tryz.prog 178 #[.agg #[ow, vi t, tl, dv]] w (fun v w' => Ext w w' ∧ Rows 1 (NmC w0) w' v (targetsL t ds) ∧ BlkB w.heap.size w' v) := by
 obtain ⟨aD, cD, hdv, hcD, hgD⟩ := hd.open
 refine enter Tryz.func178 Tryz.ntmps178 rfl rfl ?_
 repeat refine c_r ?_
 refine rg0 ?_
 repeat refine c_r ?_
 refine W_alloc1 ?_
 intro w1 hE1 hs1 hA
 have p1 : cellO w1 (some ⟨w.heap.size, 1, Option.none⟩) = some (vi t) := cellO_at hA rfl
 have p3 : cellO w1 (some ⟨w.heap.size, 3, Option.none⟩) = some dv := cellO_at hA rfl
 rw [hdv] at p3
 refine rg0 ?_
 repeat refine c_r ?_
 refine rg2 p1 Nat.zero_add ?_
 refine thenQ_normal ?_
 refine W_mono (Q := fun e σ' ds' v' => e = .normal ∧ ds' = [] ∧ Ext w1 v' ∧ ∃ ov, σ' 3 = ov ∧ Owns 1 (NmC w0) w1.heap.size v' 23 ov (targetsL t ds)) ?_ ?_
 ·refine W_block ?_
  refine W_seq ?_
  refine W_mono (Q := fun e σ' ds' v' => e = .normal ∧ ds' = [] ∧ v' = w1 ∧ σ' 1 = .pointer (some ⟨w.heap.size, 0, Option.none⟩) ∧ σ' 3 = .slice Option.none 0 0 ∧ σ' 8 = .bool (leads t)) ?_ ?_
  ·have lead : ∀ {σ' : Sto} {b : Bool}, b = leads t → σ' 8 = .bool b → σ' 8 = .bool (leads t) := fun h h2 => h ▸ h2
   refine W_seq ?_
   refine rg0 ?_
   refine thenQ_normal ?_
   refine wc0 ?_ ?_
   ·intro h
    repeat refine c_r ?_
    refine ⟨rfl, rfl, rfl, vq0, vq0, lead (b := true) ?_ (by simp only [↓reduceIte, go_sem, Nat.reduceLT, Nat.reduceEqDiff, Nat.reduceSub]; rw [h])⟩
    unfold leads; rw [h]; rfl
   intro h1
   repeat refine c_r ?_
   refine rg0 ?_
   refine thenQ_normal ?_
   refine wc0 ?_ ?_
   ·intro h
    repeat refine c_r ?_
    refine ⟨rfl, rfl, rfl, vq0, vq0, lead (b := true) ?_ (by simp only [↓reduceIte, go_sem, Nat.reduceLT, Nat.reduceEqDiff, Nat.reduceSub]; rw [h])⟩
    unfold leads; rw [h1, h]; rfl
   intro h2
   repeat refine c_r ?_
   refine rg0 ?_
   refine thenQ_normal ?_
   refine wc0 ?_ ?_
   ·intro h
    repeat refine c_r ?_
    refine ⟨rfl, rfl, rfl, vq0, vq0, lead (b := true) ?_ (by simp only [↓reduceIte, go_sem, Nat.reduceLT, Nat.reduceEqDiff, Nat.reduceSub]; rw [h])⟩
    unfold leads; rw [h1, h2, h]; rfl
   intro h3
   repeat refine c_r ?_
   refine rg0 ?_
   refine thenQ_normal ?_
   refine wc0 ?_ ?_
   ·intro h
    repeat refine c_r ?_
    refine ⟨rfl, rfl, rfl, vq0, vq0, lead (b := true) ?_ (by simp only [↓reduceIte, go_sem, Nat.reduceLT, Nat.reduceEqDiff, Nat.reduceSub]; rw [h])⟩
    unfold leads; rw [h1, h2, h3, h]; rfl
   intro h4
   repeat refine c_r ?_
   refine rg0 ?_
   refine ⟨rfl, rfl, rfl, vq0, vq0, ?_⟩
   rw [show leads t = decide (t = 15) from by unfold leads; rw [h1, h2, h3, h4]; rfl]
   simp only [↓reduceIte, go_sem, Nat.reduceLT, Nat.reduceEqDiff, Nat.reduceSub]
  rintro _ σ1 _ v1 ⟨rfl, rfl, hv1, h1, h3, h8⟩
  rw [hv1]
  clear hv1 v1
  refine thenQ_normal ?_
  refine W_cond (t := leads t) ((vq1 h8)) ?_ ?_
  ·intro hl
   have htg : ∀ ds : List DatL, targetsL t ds = ds.filterMap fun d => d.names.head? := fun ds => by unfold targetsL; rw [if_pos hl]
   repeat refine c_r ?_
   refine rg3 h1 p3 Nat.zero_add ?_
   repeat refine c_r ?_
   refine W_loop (fun m σ ds' A => ds' = [] ∧ ∃ (i : Nat) (ov : Value), i + m = ds.length ∧ σ 17 = vi i ∧ σ 16 = vi ds.length ∧ σ 15 = .slice aD ds.length cD ∧ σ 3 = ov ∧ Ext w1 A ∧ Owns 1 (NmC w0) w1.heap.size A 23 ov (targetsL t (ds.take i))) ds.length ?_ ?_
   ·exact ⟨rfl, 0, .slice Option.none 0 0, by omega, vr0, vr0, vq0, (vq1 h3), Keep.refl _ _, by rw [htg]; exact Owns.nil _ _ _ _ _⟩
   rintro m σ ds' A ⟨rfl, i, ov, him, h17, h16, h15, h3, hEA, hov⟩
   repeat refine c_r ?_
   refine rg2 h17 h16 ?_
   repeat refine c_r ?_
   refine wc0 ?_ ?_
   ·intro hlt
    simp only [decide_eq_true_eq] at hlt
    have hi : i < ds.length := by omega
    have hi0 : (0 : Int) ≤ (i : Int) := by omega
    have hi1 : (i : Int) < (ds.length : Int) := by omega
    have hi1' : (i : Int) + 1 = ((i + 1 : Nat) : Int) := by push_cast; rfl
    obtain ⟨cd, hcd, hDd⟩ := hgD i hi
    obtain ⟨xD, rfl⟩ := Option.isSome_iff_exists.1 (cellsO_some hcd)
    have hcdA := cellsO_ext (hE1.trans hEA) hcd
    obtain ⟨nm, nu, tx, rw', hcs, n1, _⟩ := hDd.ex
    obtain ⟨vals, ⟨an, cn, rfl, hcn, hgn⟩, hvl, hvr⟩ := n1
    have hcd1 := (dat_shape w0).ones hDd
    have hcdl := (dat_shape w0).len hDd
    have htk : targetsL t (ds.take (i + 1)) = targetsL t (ds.take i) ++ (ds[i].names.head?).toList := by
     rw [htg, htg, take_succ' hi, List.filterMap_append]
     congr 1
    repeat refine c_r ?_
    refine rq ?_; intro gd K hgd hK
    try simp (disch := first | omega | assumption | rfl) only [↓reduceIte, go_sem, Nat.reduceLT, Nat.reduceEqDiff, Nat.reduceSub, h15, h17, hi0, hi1, hcdA]
    have hB3 := new_block A (.cells #[vi 0, .slice Option.none 0 0, .slice Option.none 0 0, .slice Option.none 0 0, .slice Option.none 0 0] 59 (0, 0))
    have hE4 := Ext.alloc A (.cells #[vi 0, .slice Option.none 0 0, .slice Option.none 0 0, .slice Option.none 0 0, .slice Option.none 0 0] 59 (0, 0))
    have hs4 := new_size A (.cells #[vi 0, .slice Option.none 0 0, .slice Option.none 0 0, .slice Option.none 0 0, .slice Option.none 0 0] 59 (0, 0))
    revert hB3 hE4 hs4
    generalize A.alloc (.cells #[vi 0, .slice Option.none 0 0, .slice Option.none 0 0, .slice Option.none 0 0, .slice Option.none 0 0] 59 (0, 0)) = A2
    intro hB3 hE4 hs4
    refine sv_all (P := Tryz.prog) (t := 59) (l := cd) hB3 hcdl hcd1 (by rw [hcdl]; rfl) rfl ?_
    intro A3 hs5 hB5 hk5
    try simp (disch := first | omega | assumption | rfl) only [↓reduceIte, go_sem, Nat.reduceLT, Nat.reduceEqDiff, Nat.reduceSub]
    refine hK _ _ ?_; clear hK hgd; clear K; try clear gd
    have hE5 : Ext A A3 := Keep.to_ext hE4 rfl (fun b hb => by omega) hk5
    have q1 : cellO A3 (some ⟨A.heap.size, 1, Option.none⟩) = some (.slice an vals.length cn) := sv_get hB5 (by rw [hcs]; rfl)
    have hEA3 := hEA.trans hE5
    repeat refine c_r ?_
    refine rg2 q1 Nat.zero_add ?_
    repeat refine c_r ?_
    refine wc0 ?_ ?_
    ·intro hgt
     simp only [decide_eq_true_eq] at hgt
     have hv0 : 0 < vals.length := by omega
     have hg0 := hgn 0 hv0
     obtain ⟨xN, rfl⟩ := Option.isSome_iff_exists.1 (some_of_cellO hg0)
     have hw03 : Ext w0 A3 := hE0.trans (hE1.trans hEA3)
     have hg0' := cellO_ext hw03 hg0
     rw [adr_zero] at hg0'
     obtain ⟨n0, hn0⟩ : ∃ n0, ds[i].names.head? = some n0 ∧ Row w0 (vals[0]) (n0.map vs) := by
      have h1 := hvr 0 hv0 (by omega)
      refine ⟨ds[i].names[0]'(by omega), ?_, h1⟩
      rw [List.head?_eq_getElem?, List.getElem?_eq_getElem (by omega)]
     obtain ⟨a0, c0, hv0e, _⟩ := id hn0.2
     have hz : (0 : Int) ≤ 0 := by omega
     repeat refine c_r ?_
     refine rq ?_; intro gd K hgd hK
     try simp (disch := first | omega | assumption | rfl) only [↓reduceIte, go_sem, Nat.reduceLT, Nat.reduceEqDiff, Nat.reduceSub, h3, q1, Nat.zero_add, hgt, hz, hg0', Int.toNat_zero, adr_zero]
     refine bs_one (z := .slice Option.none 0 0) (v := vals[0]) (by rfl) (by rfl) (by rfl) (by rfl) (by rw [hv0e]; rfl) ?_
     intro A4 hE6 hs6 ho6
     try simp (disch := first | omega | assumption | rfl) only [↓reduceIte, go_sem, Nat.reduceLT, Nat.reduceEqDiff, Nat.reduceSub]
     have hrow : Rows 1 (NmC w0) A4 (.slice (some ⟨A3.heap.size, 0, Option.none⟩) 1 1) [n0] := by
      have h1 := ho6.k1 (fun q hq => by rw [List.mem_singleton.1 hq, hv0e]; rfl)
      exact ⟨_, h1.rowK, rfl, fun j h h' => by
       have : j = 0 := by simp at h; omega
       subst this
       exact ⟨_, rfl, hn0.2⟩⟩
     have htl2 : (targetsL t (ds.take i)).length ≤ ds.length := by
      rw [htg]
      have := List.length_filterMap_le (fun d : DatL => d.names.head?) (ds.take i)
      rw [List.length_take] at this; omega
     refine op_appR (nm_shape w0) ((hov.ext hE5).ext hE6) hrow (by rfl) (by rfl) (by rfl) (by rfl) (by rfl) (by rfl) (by decide) (vr0) (vr0) (by simp; omega) (by decide) (by have := hEA3.size; have := hE6.size; omega) ?_
     intro ov' A5 hov' hE7 _ _
     try simp (disch := first | omega | assumption | rfl) only [↓reduceIte, go_sem, Nat.reduceLT, Nat.reduceEqDiff, Nat.reduceSub]
     refine hK _ _ ?_; clear hK hgd; clear K; try clear gd
     repeat refine c_r ?_
     refine rg2 h17 hi1' ?_
     repeat refine c_r ?_
     exact ⟨m - 1, by omega, rfl, i + 1, ov', by omega, vq0, (vq1 h16), (vq1 h15), vq0, hE7 w1 (hEA3.trans hE6) (Nat.le_refl _), by rw [htk, hn0.1]; exact hov'⟩
    ·intro hgt
     simp only [decide_eq_false_iff_not] at hgt
     have hnil : ds[i].names = [] := List.length_eq_zero_iff.1 (by omega)
     repeat refine c_r ?_
     refine rg2 h17 hi1' ?_
     repeat refine c_r ?_
     exact ⟨m - 1, by omega, rfl, i + 1, ov, by omega, vq0, (vq1 h16), (vq1 h15), (vq1 h3), hEA3, by rw [htk, hnil]; simpa using hov.ext hE5⟩
   ·intro hge
    simp only [decide_eq_false_iff_not] at hge
    rw [List.take_of_length_le (by omega)] at hov
    repeat refine c_r ?_
    exact ⟨rfl, rfl, hEA, ov, h3, hov⟩
  ·intro hl
   have htg : targetsL t ds = [] := by unfold targetsL; rw [hl]; rfl
   repeat refine c_r ?_
   exact ⟨rfl, rfl, Keep.refl _ _, _, h3, by rw [htg]; exact Owns.nil _ _ _ _ _⟩
 ·rintro _ σ1 _ v1 ⟨rfl, rfl, hE2, ov, h3, hov⟩
  obtain ⟨ag, cg, hov', hcg, _⟩ := hov.rows.open
  rw [hov'] at hov
  repeat refine c_r ?_
  refine rq ?_; intro gd K hgd hK
  try simp (disch := first | omega | assumption | rfl) only [↓reduceIte, go_sem, Nat.reduceLT, Nat.reduceEqDiff, Nat.reduceSub, h3]
  rw [hov']
  refine Fn.mono (P_cm.Clip_ok hcg) ?_
  rintro _ y0 ⟨rfl, hy0⟩
  try simp (disch := first | omega | assumption | rfl) only [↓reduceIte, go_sem, Nat.reduceLT, Nat.reduceEqDiff, Nat.reduceSub]
  rw [hy0]
  clear hy0 y0
  refine hK _ _ ?_; clear hK hgd; clear K; try clear gd
  repeat refine c_r ?_
  refine rt0 Tryz.ntmps178 ?_
  have h4 := hov.rows.take (m := (targetsL t ds).length) (c2 := (targetsL t ds).length) (Nat.le_refl _) (Nat.le_refl _)
  rw [List.take_length] at h4
  exact ⟨hE1.trans hE2, h4, hov.blk.same.mono (by omega)⟩
end Go.Proofs.YtopbbjdembnfdaaGreat

namespace Go.Proofs.YtopbbjdembnfdaaGreat
open Go

section
variable {P : Program} {d : Option Tmp} {ty : TypeId} {ps : String} {af : Array Edge} {g : Option (Nat × Bool)} {ρ : Operand → Value} {w : World} {K : Value → World → Prop}

theorem op_of_bin {op : BinOp} {t yt : TypeId} {x y : Operand} {u v r : Value} (hx : ρ x = u) (hy : ρ y = v) (hr : (do eqGuard op t x y u v; binOp op t u v : Sem Value).run P w = .ok r w) (h : K r w) :
  opW P ⟨d, .binOp op t x y yt, ty, ps, af, g⟩ ρ w K := by
 have := opR_val (P := P) (K := K) hr h
 rw [← hx, ← hy] at this
 exact this
theorem neq_ptr_same {t te yt : TypeId} {j : TypeInfo} {x y : Operand} {a : Addr} (ht : tyU P t = some (.pointer te)) (hj : P.info? te = some j) (hx : ρ x = .pointer (some a)) (hy : ρ y = .pointer (some a)) (h : K (.bool false) w) :
  opW P ⟨d, .binOp .neq t x y yt, ty, ps, af, g⟩ ρ w K := by
 refine op_of_bin hx hy ?_ h
 simp [eqGuard, Lib.run_neq_ptr_same (P := P) w a (show P.underlying t = _ from ht) hj]
theorem op_conv {s t : TypeId} {x : Operand} {u v : Value} {w' : World} (hx : ρ x = u) (hr : (convert s t u).run P w = .ok v w') (h : K v w') : opW P ⟨d, .convert s t x, ty, ps, af, g⟩ ρ w K := by
 show opR P K ((do pure (.value (← convert s t (ρ x))) : Sem Next).run P w)
 rw [hx]
 exact opR_val hr h
theorem op_appS {B : Nat} {s x : Operand} {t tu e : TypeId} {inf : TypeInfo} {v : Value} {l : List Value} {bs : List UInt8} (hown : Own B w e v l) (ht : tyU P t = some (.slice e)) (hu : tyU P tu = some .string) (hi : P.info? e = some inf) (hz : inf.zero = some (.int .u8 0))
  (hsize : inf.size = 1) (hby : inf.bytes = 1) (hv : ρ s = v) (hx : ρ x = vs bs) (hlen : l.length + bs.length ≤ 100000000000) (hB : B ≤ w.heap.size)
  (h : ∀ v' w', Own B w' e v' (l ++ bs.map byteV) → Keep (fun b => some b = v.ownBlock) w w' → K v' w') :
  opW P ⟨d, .call ⟨.builtin .append, #[s, x], #[t, tu]⟩, ty, ps, af, g⟩ ρ w K := by
 have hs : (⟨bs.toArray⟩ : ByteArray).size = bs.length := by simp [ByteArray.size]
 obtain ⟨v', w', hr, h2, h3, h4⟩ := Lib.run_append_own_string (P := P) w B t tu ty e inf (show P.underlying t = _ from ht) (show P.underlying tu = _ from hu) hi hz hsize hby v l.length l hown ⟨bs.toArray⟩ (by rw [hs]; simp [maxLen]; omega) (by rw [hs]; omega) hB
 have hc : Lib.strCells ⟨bs.toArray⟩ = bs.map byteV := by simp [Lib.strCells, byteV]
 rw [hs, hc] at h2
 refine run_callBuiltin (b := .append) (r := .ok v' w') (fun v2 w2 h' => ?_) ⟨v', w', by rw [hv, hx]; exact hr⟩
 rw [hv, hx] at h'
 have e1 : (Builtin.append_ #[t, tu] ty #[v, .string ⟨bs.toArray⟩]).run P w = .ok v2 w2 := h'
 rw [hr] at e1
 cases e1
 have hl : l.length + bs.length = (l ++ bs.map byteV).length := by simp
 rw [hl] at h2
 exact h v' w' h2 (grown_keep h3 (run_drawn _ _ _ _ hr))

theorem op_sliceData {x : Operand} {ts : Array TypeId} {u v : Value} {w' : World} (hx : ρ x = u) (hr : (Builtin.unsafeSliceData_ ts ty #[u]).run P w = .ok v w') (h : K v w') :
  opW P ⟨d, .call ⟨.builtin .unsafeSliceData, #[x], ts⟩, ty, ps, af, g⟩ ρ w K := by
 simp only [opW, execOp, Sem.run_bind, resolve]
 simp only [Sem.run_pure, Result.andThen_ok, invoke, builtin]
 exact opR_val (s := Builtin.unsafeSliceData_ ts ty (Array.map ρ #[x])) (by simpa [hx] using hr) h
theorem op_unsafeString {x y : Operand} {ts : Array TypeId} {u z v : Value} {w' : World} (hx : ρ x = u) (hy : ρ y = z) (hr : (Builtin.unsafeString_ ts ty #[u, z]).run P w = .ok v w') (h : K v w') :
  opW P ⟨d, .call ⟨.builtin .unsafeString, #[x, y], ts⟩, ty, ps, af, g⟩ ρ w K := by
 simp only [opW, execOp, Sem.run_bind, resolve]
 simp only [Sem.run_pure, Result.andThen_ok, invoke, builtin]
 exact opR_val (s := Builtin.unsafeString_ ts ty (Array.map ρ #[x, y])) (by simpa [hx, hy] using hr) h
end
end Go.Proofs.YtopbbjdembnfdaaGreat

namespace Go.Proofs.YtopbbjdembnfdaaGreat
open Go
set_option maxRecDepth 10000

structure Bld (B : Nat) (w : World) (b : Nat) (bs : List UInt8) : Prop where
 ex : ∃ p v, (p = .pointer Option.none ∨ p = .pointer (some ⟨b, 0, Option.none⟩)) ∧ w.heap[b]? = some (.cells #[p, v] 307 (0, 0)) ∧ Own B w 5 v (bs.map byteV)

theorem own_type {B : Nat} {w : World} {e : TypeId} {v : Value} {l : List Value} (h : Own B w e v l) {b : Nat} (hb : some b = v.ownBlock) : ∃ cur fr, w.heap[b]? = some (.cells cur e fr) := by
 rcases h.2 with ⟨rfl, _⟩ | ⟨g, cap, cur, rfl, _, hg, _⟩
 ·cases hb
 ·cases hb; exact ⟨_, _, hg⟩
theorem bld_ne {B : Nat} {w : World} {v p : Value} {l : List Value} {b : Nat} (h : Own B w 5 v l) (hb : w.heap[b]? = some (.cells #[p, v] 307 (0, 0))) : some b ≠ v.ownBlock := fun he => by
 obtain ⟨cur, fr, h1⟩ := own_type h he
 rw [hb] at h1
 injection h1 with h1
 injection h1 with _ h2
 revert h2; decide
theorem ones_byte (l : List UInt8) : ∀ q ∈ l.map byteV, one q = true := fun q hq => by
 obtain ⟨c, _, rfl⟩ := List.mem_map.1 hq; rfl

theorem copyCheck_ok {w : World} {b : Nat} {p v : Value} (hp : p = .pointer Option.none ∨ p = .pointer (some ⟨b, 0, Option.none⟩)) (hb : w.heap[b]? = some (.cells #[p, v] 307 (0, 0))) :
  Fn Tryz.prog 236 #[.pointer (some ⟨b, 0, Option.none⟩)] w (fun _ w' => w'.heap[b]? = some (.cells #[.pointer (some ⟨b, 0, Option.none⟩), v] 307 (0, 0)) ∧ Keep (fun i => i = b) w w' ∧ w'.heap.size = w.heap.size) := by
 have c0 : cellO w (some ⟨b, 0, Option.none⟩) = some p := cellO_at hb rfl
 obtain ⟨j, hj, hjs⟩ : ∃ j, Tryz.prog.info? 307 = some j ∧ j.size ≠ 0 := by
  have : (Tryz.prog.info? 307).map (·.size) = some 2 := by kernel_rfl
  obtain ⟨j, h1, h2⟩ := Option.map_eq_some_iff.1 this
  exact ⟨j, h1, by rw [h2]; decide⟩
 rcases hp with rfl | rfl
 ·refine enter Tryz.func236 Tryz.ntmps236 rfl rfl ?_
  repeat refine c_r ?_
  refine rq ?_; intro gd K hgd hK
  try simp (disch := first | omega | assumption | rfl) only [↓reduceIte, go_sem, Nat.reduceLT, Nat.reduceEqDiff, Nat.reduceSub, c0, Nat.add_zero]
  refine hK _ _ ?_; clear hK hgd; clear K; try clear gd
  repeat refine c_r ?_
  refine wc0 ?_ ?_
  ·intro _
   have hsh : w.shape? b = some (307, 2) := by simp [World.shape?, hb]
   repeat refine c_r ?_
   refine rq ?_; intro gd K hgd hK
   try simp (disch := first | omega | assumption | rfl) only [↓reduceIte, go_sem, Nat.reduceLT, Nat.reduceEqDiff, Nat.reduceSub]
   refine op_conv (by rfl) (Lib.run_to_unsafe w ⟨b, 0, Option.none⟩ (by rfl) (by rfl) hj hjs hsh (Nat.zero_lt_succ 1)) ?_
   try simp (disch := first | omega | assumption | rfl) only [↓reduceIte, go_sem, Nat.reduceLT, Nat.reduceEqDiff, Nat.reduceSub]
   refine ⟨.pointer (some ⟨b, 0, Option.none⟩), w, ?_, ?_⟩
   ·rw [run_callFunc_extern (show Tryz.prog.funcs[249]? = _ from Tryz.func249) (by kernel_rfl) (by kernel_rfl) (by kernel_rfl) (e := Extern.AbiNoEscape.same) (by kernel_rfl)]
    rw [Lib.run_noEscape]
    rfl
   try simp (disch := first | omega | assumption | rfl) only [↓reduceIte, go_sem, Nat.reduceLT, Nat.reduceEqDiff, Nat.reduceSub]
   refine op_conv (by rfl) (Lib.run_from_unsafe w ⟨b, 0, Option.none⟩ (by rfl) (by rfl) hj hsh (by kernel_rfl)) ?_
   try simp (disch := first | omega | assumption | rfl) only [↓reduceIte, go_sem, Nat.reduceLT, Nat.reduceEqDiff, Nat.reduceSub]
   refine sv_at (P := Tryz.prog) (t := 305) (j := 0) (l := [.pointer Option.none, v]) hb (by simp) rfl rfl rfl ?_
   intro w1 hs1 hb1 hk1
   try simp (disch := first | omega | assumption | rfl) only [↓reduceIte, go_sem, Nat.reduceLT, Nat.reduceEqDiff, Nat.reduceSub]
   refine hK _ _ ?_; clear hK hgd; clear K; try clear gd
   repeat refine c_r ?_
   exact ret_none (by simp) rfl ⟨by simpa using hb1, hk1, hs1⟩
  ·intro h; cases h
 ·refine enter Tryz.func236 Tryz.ntmps236 rfl rfl ?_
  repeat refine c_r ?_
  refine rq ?_; intro gd K hgd hK
  try simp (disch := first | omega | assumption | rfl) only [↓reduceIte, go_sem, Nat.reduceLT, Nat.reduceEqDiff, Nat.reduceSub, c0, Nat.add_zero]
  refine hK _ _ ?_; clear hK hgd; clear K; try clear gd
  repeat refine c_r ?_
  refine wc0 ?_ ?_
  ·intro h; cases h
  intro _
  repeat refine c_r ?_
  refine rq ?_; intro gd K hgd hK
  try simp (disch := first | omega | assumption | rfl) only [↓reduceIte, go_sem, Nat.reduceLT, Nat.reduceEqDiff, Nat.reduceSub, c0, Nat.add_zero]
  refine neq_ptr_same (by rfl) hj (by rfl) (by rfl) ?_
  try simp (disch := first | omega | assumption | rfl) only [↓reduceIte, go_sem, Nat.reduceLT, Nat.reduceEqDiff, Nat.reduceSub]
  refine hK _ _ ?_; clear hK hgd; clear K; try clear gd
  repeat refine c_r ?_
  refine wc0 ?_ ?_
  ·intro h; cases h
  intro _
  repeat refine c_r ?_
  exact ret_none (by simp) rfl ⟨hb, Keep.refl _ _, rfl⟩

theorem WriteString_ok {B : Nat} {w : World} {b : Nat} {bs s : List UInt8} (h : Bld B w b bs) (hB : B ≤ w.heap.size) (hlen : bs.length + s.length ≤ 100000000000) :
  Fn Tryz.prog 210 #[.pointer (some ⟨b, 0, Option.none⟩), vs s] w (fun _ w' => Bld B w' b (bs ++ s) ∧ Keep (fun i => i = b ∨ B ≤ i) w w') := by
 obtain ⟨p, v, hp, hb, hown⟩ := h.ex
 have hne := bld_ne hown hb
 obtain ⟨inf, hi, hz, hsz, hby⟩ := info_parts (P := Tryz.prog) (e := 5) (z := .int .u8 0) (size := 1) (bytes := 1) (by kernel_rfl)
 refine enter Tryz.func210 Tryz.ntmps210 rfl rfl ?_
 repeat refine c_r ?_
 refine rg0 ?_
 repeat refine c_r ?_
 refine rq ?_; intro gd K hgd hK
 try simp (disch := first | omega | assumption | rfl) only [↓reduceIte, go_sem, Nat.reduceLT, Nat.reduceEqDiff, Nat.reduceSub]
 refine Fn.mono (copyCheck_ok hp hb) ?_
 rintro _ w1 ⟨hb1, hk1, hs1⟩
 try simp (disch := first | omega | assumption | rfl) only [↓reduceIte, go_sem, Nat.reduceLT, Nat.reduceEqDiff, Nat.reduceSub]
 refine hK _ _ ?_; clear hK hgd; clear K; try clear gd
 have hown1 := hown.keep hk1 (fun i hi he => hne (he ▸ hi))
 have c1 : cellO w1 (some ⟨b, 1, Option.none⟩) = some v := cellO_at hb1 rfl
 repeat refine c_r ?_
 refine rq ?_; intro gd K hgd hK
 try simp (disch := first | omega | assumption | rfl) only [↓reduceIte, go_sem, Nat.reduceLT, Nat.reduceEqDiff, Nat.reduceSub, c1, Nat.zero_add]
 refine op_appS hown1 (by rfl) (by rfl) hi hz hsz hby (by rfl) (by rfl) (by simpa using hlen) (by omega) ?_
 intro v2 w2 hown2 hk2
 try simp (disch := first | omega | assumption | rfl) only [↓reduceIte, go_sem, Nat.reduceLT, Nat.reduceEqDiff, Nat.reduceSub]
 have hb2 := (hk2.block b (Array.getElem?_eq_some_iff.1 hb1).1 hne).trans hb1
 have hne2 : some b ≠ v2.ownBlock := fun he => by
  obtain ⟨cur, fr, h1⟩ := own_type hown2 he
  rw [hb2] at h1
  injection h1 with h1
  injection h1 with _ h2
  revert h2; decide
 obtain ⟨a2, c2, hv2⟩ := hown2.slice
 refine sv_at (P := Tryz.prog) (t := 57) (j := 1) (l := [.pointer (some ⟨b, 0, Option.none⟩), v]) hb2 (by simp) (by rw [hv2]; rfl) rfl rfl ?_
 intro w3 hs3 hb3 hk3
 try simp (disch := first | omega | assumption | rfl) only [↓reduceIte, go_sem, Nat.reduceLT, Nat.reduceEqDiff, Nat.reduceSub]
 refine hK _ _ ?_; clear hK hgd; clear K; try clear gd
 have hown3 := hown2.keep hk3 (fun i hi he => hne2 (he ▸ hi))
 repeat refine c_r ?_
 refine rg0 ?_
 repeat refine c_r ?_
 refine ret_any (.inr rfl) Tryz.ntmps210 rfl (res_tmp rfl (res_tmp rfl res_nil)) ?_
 refine ⟨⟨⟨_, v2, .inr rfl, by simpa using hb3, by rw [List.map_append]; exact hown3⟩⟩, ?_⟩
 exact ((hk1.mono (fun i _ h => .inl h)).trans (hk2.mono (fun i _ h => .inr (hown1.ge h).1))).trans (hk3.mono (fun i _ h => .inl h))

theorem WriteByte_ok {B : Nat} {w : World} {b : Nat} {bs : List UInt8} {c : UInt8} (h : Bld B w b bs) (hB : B ≤ w.heap.size) (hlen : bs.length + 1 ≤ 100000000000) :
  Fn Tryz.prog 239 #[.pointer (some ⟨b, 0, Option.none⟩), byteV c] w (fun _ w' => Bld B w' b (bs ++ [c]) ∧ Keep (fun i => i = b ∨ B ≤ i) w w') := by
 obtain ⟨p, v, hp, hb, hown⟩ := h.ex
 have hne := bld_ne hown hb
 refine enter Tryz.func239 Tryz.ntmps239 rfl rfl ?_
 repeat refine c_r ?_
 refine rg0 ?_
 repeat refine c_r ?_
 refine rq ?_; intro gd K hgd hK
 try simp (disch := first | omega | assumption | rfl) only [↓reduceIte, go_sem, Nat.reduceLT, Nat.reduceEqDiff, Nat.reduceSub]
 refine Fn.mono (copyCheck_ok hp hb) ?_
 rintro _ w1 ⟨hb1, hk1, hs1⟩
 try simp (disch := first | omega | assumption | rfl) only [↓reduceIte, go_sem, Nat.reduceLT, Nat.reduceEqDiff, Nat.reduceSub]
 refine hK _ _ ?_; clear hK hgd; clear K; try clear gd
 have hown1 := hown.keep hk1 (fun i hi he => hne (he ▸ hi))
 have c1 : cellO w1 (some ⟨b, 1, Option.none⟩) = some v := cellO_at hb1 rfl
 repeat refine c_r ?_
 refine rq ?_; intro gd K hgd hK
 try simp (disch := first | omega | assumption | rfl) only [↓reduceIte, go_sem, Nat.reduceLT, Nat.reduceEqDiff, Nat.reduceSub, c1, Nat.zero_add]
 refine bs_one (z := .int .u8 0) (v := byteV c) (by rfl) (by rfl) (by rfl) (by rfl) (by rfl) ?_
 intro x1 hX1 hXs hXo
 try simp (disch := first | omega | assumption | rfl) only [↓reduceIte, go_sem, Nat.reduceLT, Nat.reduceEqDiff, Nat.reduceSub]
 refine op_app (B := B) (hown1.ext hX1) hXo.row (by rfl) (by rfl) (by rfl) (by rfl) (by rfl) (by rfl) (by rfl) (by rfl) (ones_byte [c]) (by simp; omega) (by decide) (by have := hX1.size; omega) ?_
 intro v2 w2 hown2 _ hk2 hfr
 try simp (disch := first | omega | assumption | rfl) only [↓reduceIte, go_sem, Nat.reduceLT, Nat.reduceEqDiff, Nat.reduceSub]
 have hb2 := (hk2.block b (by have := (Array.getElem?_eq_some_iff.1 hb1).1; have := hX1.size; omega) hne).trans (Ext.at hX1 hb1)
 have hne2 : some b ≠ v2.ownBlock := fun he => by
  obtain ⟨cur, fr, h1⟩ := own_type hown2 he
  rw [hb2] at h1
  injection h1 with h1
  injection h1 with _ h2
  revert h2; decide
 obtain ⟨a2, c2, hv2⟩ := hown2.slice
 refine sv_at (P := Tryz.prog) (t := 57) (j := 1) (l := [.pointer (some ⟨b, 0, Option.none⟩), v]) hb2 (by simp) (by rw [hv2]; rfl) rfl rfl ?_
 intro w3 hs3 hb3 hk3
 try simp (disch := first | omega | assumption | rfl) only [↓reduceIte, go_sem, Nat.reduceLT, Nat.reduceEqDiff, Nat.reduceSub]
 refine hK _ _ ?_; clear hK hgd; clear K; try clear gd
 have hown3 := hown2.keep hk3 (fun i hi he => hne2 (he ▸ hi))
 repeat refine c_r ?_
 refine rg0 ?_
 repeat refine c_r ?_
 refine ret_any (.inr rfl) Tryz.ntmps239 rfl (res_tmp rfl res_nil) ?_
 refine ⟨⟨⟨_, v2, .inr rfl, by simpa using hb3, by rw [List.map_append]; exact hown3⟩⟩, ?_⟩
 exact (((hk1.mono (fun i _ h => .inl h)).trans (hX1.mono (fun i _ h => h.elim))).trans (hk2.mono (fun i _ h => .inr (hown1.ge h).1))).trans (hk3.mono (fun i _ h => .inl h))

theorem freeze_keep (w : World) (p : Addr) (n : Nat) : Keep (fun i => i = p.block) w (w.freeze p n) := by
 unfold World.freeze
 split
 ·exact Keep.refl _ _
 ·exact ⟨rfl, rfl, rfl, by simp, fun k hk hne => by
   simp only [Array.getElem?_modify]
   rw [if_neg (fun h => hne h.symm)], Nat.le_refl _⟩

theorem String_ok {B : Nat} {w : World} {b : Nat} {bs : List UInt8} (h : Bld B w b bs) (h0 : bs ≠ []) (hlen : bs.length ≤ 100000000000) :
  Fn Tryz.prog 212 #[.pointer (some ⟨b, 0, Option.none⟩)] w (fun v w' => v = vs bs ∧ Keep (fun i => B ≤ i) w w') := by
 obtain ⟨p, v, hp, hb, hown⟩ := h.ex
 rcases hown.2 with ⟨rfl, hl⟩ | ⟨g, cap, cur, rfl, hgB, hg, hn, hcap, hcs, hx⟩
 ·exact absurd (by simpa using hl) h0
 simp only [List.length_map, Nat.mul_one] at hn hx hb hcs
 have hlen0 : 0 < bs.length := List.length_pos_iff.2 h0
 refine enter Tryz.func212 Tryz.ntmps212 rfl rfl ?_
 repeat refine c_r ?_
 refine rg0 ?_
 repeat refine c_r ?_
 have hbg : b ≠ g := fun he => by
  subst he
  rw [hb] at hg
  injection hg with hg
  injection hg with _ h2
  revert h2; decide
 have hc0 : cap ≠ 0 := by omega
 refine W_drw (fun _ => false) [(0, true), (1, true), (2, true), (3, true), (5, true), (6, true), (7, true), (8, true), (9, true), (4, false), (10, false), (11, true)] ((fun i => i = g)) mixed (by kernel_rfl) ?_; intro gd K x hgd hx hxe hK; have hx0 := drewX hxe; clear hxe
 have c1 : cellO x (some ⟨b, 1, Option.none⟩) = some (.slice (some ⟨g, 0, Option.none⟩) bs.length cap) := cellO_at (Ext.at hx0 hb) rfl
 have hgx := Ext.at hx0 hg
 simp (disch := first | omega | assumption | rfl) only [↓reduceIte, go_sem, Nat.reduceLT, Nat.reduceEqDiff, Nat.reduceSub, c1, Nat.zero_add]
 refine ⟨fun a ha hb => (by cases ha; exact hbg hb), fun a ha hb => (by cases ha; exact hbg hb), ?_⟩
 refine op_sliceData (u := .slice (some ⟨g, 0, Option.none⟩) bs.length cap) (vq0) (Lib.run_unsafeSliceData_row _ _ _ _ _ _ hc0) ?_
 refine ⟨.inr (Keep.refl _ _), ?_⟩
 refine op_unsafeString (u := .pointer (some ⟨g, 0, Option.none⟩)) (z := vi bs.length) (vq0) (vq0) (Lib.run_unsafeString_row (P := Tryz.prog) _ _ _ _ 5 (by rfl) (by rfl) g (cap * 1) (by simp [World.shape?, hgx, hcs]) bs h0 (by omega) (by omega) ?_) ?_
 ·intro j y hj
  obtain ⟨hj1, hj2⟩ := List.getElem?_eq_some_iff.1 hj
  have hcell := hown.row
  obtain ⟨a, c, e, hc, hgt⟩ := hcell.ext hx0
  injection e with e1 e2 e3
  have h2 := hgt j (by simpa using hj1)
  rw [← e1, List.getElem_map, hj2] at h2
  exact h2
 have hfk : Keep (fun i => i = g) x (x.freeze ⟨g, 0, Option.none⟩ bs.length) := freeze_keep x ⟨g, 0, Option.none⟩ bs.length
 refine ⟨.inr hfk, ?_⟩
 refine hK _ _ ?_; clear hK hgd; clear K; try clear gd
 repeat refine c_r ?_
 refine ret_any (.inr rfl) Tryz.ntmps212 rfl (res_tmp (vr0) res_nil) ?_
 exact ⟨rfl, (hx0.mono (fun i _ h => h.elim)).trans (hfk.mono (fun i _ h => h ▸ hgB))⟩
end Go.Proofs.YtopbbjdembnfdaaGreat

namespace Go.Proofs
open Go.Shelf
def Tryz.lays137_ren : Go.Shelf.Ren := ⟨fun | 137 => 238 | 217 => 250 | 266 => 256 | n => n, fun | 9 => 9 | 5 => 5 | 3 => 3 | n => n, fun | n => n⟩
theorem Tryz.lays137 : Go.Proofs.Lays.n137 Tryz.prog Tryz.lays137_ren := {
 mixed := by kernel_rfl
 f137 := Tryz.func238.trans (congrArg some (by kernel_rfl))
 f217 := Tryz.func250.trans (congrArg some (by kernel_rfl))
 f266 := Tryz.func256.trans (congrArg some (by kernel_rfl))
 t3 := Tryz.underlying3
 a3 := Tryz.isAgg3
 z3 := Tryz.sizeOf3
 v3 := Tryz.zeroValue3
 t5 := Tryz.underlying5
 a5 := Tryz.isAgg5
 z5 := Tryz.sizeOf5
 v5 := Tryz.zeroValue5
 t9 := Tryz.underlying9
 a9 := Tryz.isAgg9
 z9 := Tryz.sizeOf9
 v9 := Tryz.zeroValue9 }
end Go.Proofs

namespace Go.Proofs.YtopbbjdembnfdaaGreat
open Go
set_option maxRecDepth 10000

def escB (c : UInt8) : List UInt8 := [92, UInt8.ofNat (48 + c.toNat / 100), UInt8.ofNat (48 + c.toNat / 10 % 10), UInt8.ofNat (48 + c.toNat % 10)]
def marksL : List UInt8 := [46, 92, 34, 40, 41, 59, 64, 36]
def labB (c : UInt8) : List UInt8 := if c.toNat ≤ 32 ∨ 127 ≤ c.toNat then escB c else if marksL.contains c then [92, c] else [c]
def textL (l : Lab) : List UInt8 := l.flatMap labB
def textN (n : Nm) : List UInt8 := if n = [] then [46] else n.flatMap fun l => textL l ++ [46]

theorem byteV_of {k : Nat} (h : k < 256) : byteV (UInt8.ofNat k) = .int .u8 (k : Int) := by
 unfold byteV
 rw [UInt8.toNat_ofNat_of_lt' (by simpa [UInt8.size] using h)]
theorem indexByte_has (l : List UInt8) (c : UInt8) : decide (0 ≤ Lib.indexByte l c) = l.contains c := by
 induction l with
 | nil => rfl
 | cons b l ih =>
  unfold Lib.indexByte
  rw [List.contains_cons]
  by_cases h : b == c
  ·rw [if_pos h]
   have h' : b = c := by simpa using h
   subst h'
   simp
  ·rw [if_neg h]
   have : (c == b) = false := by
    have h' : ¬ b = c := by simpa using h
    exact beq_eq_false_iff_ne.2 (fun e => h' e.symm)
   rw [this, Bool.false_or, ← ih]
   have hge := Lib.indexByte_ge l c
   by_cases h2 : (Lib.indexByte l c == -1) = true
   ·rw [if_pos h2]
    have h3 : Lib.indexByte l c = -1 := by simpa using h2
    rw [h3]
   ·rw [if_neg h2]
    have h3 : Lib.indexByte l c ≠ -1 := by simpa using h2
    exact decide_eq_decide.2 ⟨fun _ => by omega, fun _ => by omega⟩
theorem labB_ne (c : UInt8) : labB c ≠ [] := by
 unfold labB escB
 by_cases h1 : c.toNat ≤ 32 ∨ 127 ≤ c.toNat
 ·rw [if_pos h1]; exact List.cons_ne_nil _ _
 ·rw [if_neg h1]
  by_cases h2 : marksL.contains c = true
  ·rw [if_pos h2]; exact List.cons_ne_nil _ _
  ·rw [if_neg h2]; exact List.cons_ne_nil _ _
theorem labB_len (c : UInt8) : (labB c).length ≤ 4 := by
 unfold labB escB
 by_cases h1 : c.toNat ≤ 32 ∨ 127 ≤ c.toNat
 ·rw [if_pos h1]; exact Nat.le_refl _
 ·rw [if_neg h1]
  by_cases h2 : marksL.contains c = true
  ·rw [if_pos h2]; exact (by decide : 2 ≤ 4)
  ·rw [if_neg h2]; exact (by decide : 1 ≤ 4)
theorem textL_len (l : Lab) : (textL l).length ≤ 4 * l.length := by
 induction l with
 | nil => simp [textL]
 | cons c l ih =>
  have := labB_len c
  unfold textL at *
  rw [List.flatMap_cons, List.length_append, List.length_cons]; omega

theorem Escape_ok (w : World) (c : UInt8) : Fn Tryz.prog 237 #[byteV c] w (fun v w' => v = vs (escB c) ∧ Ext w w') := by
 have hc : c.toNat < 256 := c.toNat_lt
 obtain ⟨n, hn⟩ : ∃ n, c.toNat = n := ⟨_, rfl⟩
 have e0 : byteV c = .int .u8 (n : Int) := by unfold byteV; rw [hn]
 rw [e0]
 rw [hn] at hc
 have h100 : ¬ (100 : Int) = 0 := by decide
 have h10 : ¬ (10 : Int) = 0 := by decide
 have e1 : ((n : Nat) : Int).tdiv 100 = ((n / 100 : Nat) : Int) := by rw [Int.tdiv_eq_ediv_of_nonneg (by omega)]; omega
 have e2 : ((n : Nat) : Int).tdiv 10 = ((n / 10 : Nat) : Int) := by rw [Int.tdiv_eq_ediv_of_nonneg (by omega)]; omega
 have e3 : ((n / 10 : Nat) : Int).tmod 10 = ((n / 10 % 10 : Nat) : Int) := by rw [Int.tmod_eq_emod_of_nonneg (by omega)]; omega
 have e4 : ((n : Nat) : Int).tmod 10 = ((n % 10 : Nat) : Int) := by rw [Int.tmod_eq_emod_of_nonneg (by omega)]; omega
 have w1 : IntKind.u8.wrap ((n / 100 : Nat) : Int) = ((n / 100 : Nat) : Int) := wrap8 (by omega) (by omega)
 have w2 : IntKind.u8.wrap ((n / 10 : Nat) : Int) = ((n / 10 : Nat) : Int) := wrap8 (by omega) (by omega)
 have w3 : IntKind.u8.wrap (48 + ((n / 100 : Nat) : Int)) = ((48 + n / 100 : Nat) : Int) := by rw [wrap8 (by omega) (by omega)]; push_cast; rfl
 have w4 : IntKind.u8.wrap (48 + ((n / 10 % 10 : Nat) : Int)) = ((48 + n / 10 % 10 : Nat) : Int) := by rw [wrap8 (by omega) (by omega)]; push_cast; rfl
 have w5 : IntKind.u8.wrap (48 + ((n % 10 : Nat) : Int)) = ((48 + n % 10 : Nat) : Int) := by rw [wrap8 (by omega) (by omega)]; push_cast; rfl
 have hl : escB c = [92, UInt8.ofNat (48 + n / 100), UInt8.ofNat (48 + n / 10 % 10), UInt8.ofNat (48 + n % 10)] := by unfold escB; rw [hn]
 refine enter Tryz.func237 Tryz.ntmps237 rfl rfl ?_
 repeat refine c_r ?_
 refine rg0 ?_
 repeat refine c_r ?_
 refine rq ?_; intro gd K hgd hK
 try simp (disch := assumption) only [↓reduceIte, go_sem, Nat.reduceLT, Nat.reduceEqDiff, Nat.reduceSub, b_quo, b_rem, e1, e2, e3, e4, w1, w2, ↓w3, ↓w4, ↓w5]
 refine bs_list (z := .int .u8 0) (l := (escB c).map byteV) (by rw [hl]; rfl) ?_ (by rfl) (by rfl) (by rfl) (by rfl) (fun v hv => ?_) (by rw [hl]; simp) ?_
 ·rw [hl]
  simp only [List.map_cons, List.map_nil]
  rw [byteV_of (by omega), byteV_of (by omega), byteV_of (by omega)]; rfl
 ·obtain ⟨d, _, rfl⟩ := List.mem_map.1 hv; rfl
 intro x1 hX1 hXs hXo
 try simp (disch := first | omega | assumption | rfl) only [↓reduceIte, go_sem, Nat.reduceLT, Nat.reduceEqDiff, Nat.reduceSub]
 have hlen4 : (escB c).length = 4 := rfl
 refine conv_b2s (l := escB c) rfl rfl rfl (vr0) (fun j hj => ?_) ?_
 ·obtain ⟨a, c2, e, hc2, hgt⟩ := hXo.row
  injection e with e1
  have h2 := hgt j (by simpa using hj)
  rw [← e1, List.getElem_map] at h2
  exact h2
 try simp (disch := first | omega | assumption | rfl) only [↓reduceIte, go_sem, Nat.reduceLT, Nat.reduceEqDiff, Nat.reduceSub]
 refine hK _ _ ?_; clear hK hgd; clear K; try clear gd
 repeat refine c_r ?_
 refine rt0 Tryz.ntmps237 ?_
 exact ⟨rfl, hX1⟩

theorem IndexByte_ok (w : World) (c : UInt8) : Fn Tryz.prog 238 #[vs marksL, byteV c] w (fun v w' => v = vi (Lib.indexByte marksL c) ∧ w' = w) :=
 Fn.of_calls (Calls.mono (Any.strings_IndexByte Tryz.lays137 ⟨marksL.toArray⟩ (c.toNat : Int) w) fun _ _ ⟨he, hw⟩ => ⟨_, he, by simp, hw⟩)

theorem Bld.ext' {B : Nat} {w x : World} {b : Nat} {bs : List UInt8} (h : Bld B w b bs) (hE : Ext w x) : Bld B x b bs := by
 obtain ⟨p, v, hp, hb, hown⟩ := h.ex
 exact ⟨p, v, hp, hE.at hb, hown.ext hE⟩

theorem LText_ok (w : World) (l : Lab) (h0 : l ≠ []) (hl : l.length ≤ 1000000000) : Fn Tryz.prog 211 #[vs l] w (fun v w' => v = vs (textL l) ∧ Ext w w') := by
 refine enter Tryz.func211 Tryz.ntmps211 rfl rfl ?_
 repeat refine c_r ?_
 refine rg0 ?_
 repeat refine c_r ?_
 refine rg0 ?_
 refine W_alloc1 ?_
 intro w1 hE1 hs1 hA
 repeat refine c_r ?_
 refine rq ?_; intro gd K hgd hK
 try simp (disch := first | omega | assumption | rfl) only [↓reduceIte, go_sem, Nat.reduceLT, Nat.reduceEqDiff, Nat.reduceSub]
 refine Fn.mono (octets_ok _ _ (by omega)) ?_
 rintro _ w3 ⟨hE3, cap, rfl, hit⟩
 try simp (disch := first | omega | assumption | rfl) only [↓reduceIte, go_sem, Nat.reduceLT, Nat.reduceEqDiff, Nat.reduceSub]
 refine hK _ _ ?_; clear hK hgd; clear K; try clear gd
 have hA3 := hE3.at hA
 have s3 := hE3.size
 repeat refine c_r ?_
 refine W_range (g := 192) (cap := cap) (vq0) rfl (hit (fun b => b = w.heap.size) (fun b hb => by omega)) (Keep.refl _ _) (Nat.le_refl _) (fun b hb => by omega)
  (fun x A args h => by rw [h]; rfl)
  (fun pre A => Ext w A ∧ Bld (w3.heap.size + 2) A w.heap.size (textL (l.take pre.length)))
  (fun _ _ _ => False) ?_ (fun _ _ _ _ h _ => h.elim) ?_ ?_ ?_ (fun _ _ _ _ _ _ _ h _ => h.elim)
 ·rintro pre A B ⟨h1, p, v, hp, hb, hown⟩ hk
  refine ⟨Keep.to_ext h1 rfl (fun b hb => by unfold two at hb; omega) hk, p, v, hp, (hk.block _ (Array.getElem?_eq_some_iff.1 hb).1 (by unfold two; omega)).trans hb, hown.keep hk (fun b hb h => by have := (hown.ge hb).1; unfold two at h; omega)⟩
 ·exact ⟨hE1.trans hE3, _, _, .inl rfl, hA3, Own.nil _ _ _⟩
 ·rintro lp pre x suf A args hxs hszA ⟨hEA, hB⟩ rfl
  obtain ⟨hk, rfl⟩ := zipIdx_split hxs
  dsimp only
  refine rq ?_; intro gd K hgd hK
  try simp (disch := first | omega | assumption | rfl) only [↓reduceIte, go_sem, Nat.reduceLT, Nat.reduceEqDiff, Nat.reduceSub]
  refine hK _ _ ?_; clear hK hgd; clear K; try clear gd
  refine thenQ_normal ?_
  refine ⟨rfl, KeepB.refl _ _ _, fun A2 hA2 => ?_⟩
  obtain ⟨c, hc⟩ : ∃ c, l[pre.length] = c := ⟨_, rfl⟩
  rw [hc]
  have hK2 : Bld (w3.heap.size + 2) A2 w.heap.size (textL (l.take pre.length)) := by
   obtain ⟨p, v, hp, hb, hown⟩ := hB
   exact ⟨p, v, hp, (hA2.block _ (Array.getElem?_eq_some_iff.1 hb).1 (by unfold two; omega)).trans hb, hown.keep hA2 (fun b hb h => by have := (hown.ge hb).1; unfold two at h; omega)⟩
  have hE2 : Ext w A2 := Keep.to_ext hEA rfl (fun b hb => by unfold two at hb; omega) hA2
  have hsA2 := hA2.size
  have htl : (textL (l.take pre.length)).length ≤ 4 * l.length := by
   have h1 := textL_len (l.take pre.length)
   rw [List.length_take] at h1; omega
  have htk : textL (l.take (pre.length + 1)) = textL (l.take pre.length) ++ labB c := by
   rw [take_succ' hk, hc]; unfold textL; rw [List.flatMap_append]; simp
  have fin : ∀ {z : World} {bs : List UInt8}, bs = labB c → Bld (w3.heap.size + 2) z w.heap.size (textL (l.take pre.length) ++ bs) → Keep (fun i => i = w.heap.size ∨ w3.heap.size + 2 ≤ i) A2 z →
    (Ext w z ∧ Bld (w3.heap.size + 2) z w.heap.size (textL (l.take (pre ++ [(c, pre.length)]).length))) ∧ KeepB (w3.heap.size + 2) (fun b => b = w.heap.size) A2 z := fun {z bs} hbs hBz hkz => by
   refine ⟨⟨Keep.to_ext hE2 rfl (fun b hb => by omega) hkz, ?_⟩, hkz.toB (by omega) (fun i hi h => by omega)⟩
   rw [List.length_append, List.length_singleton, htk, ← hbs]; exact hBz
  repeat refine c_r ?_
  refine W_mono (Q := fun e σ' ds' v' => e = .normal ∧ ds' = [] ∧ v' = A2 ∧ σ' 5 = byteV c ∧ σ' 3 = .pointer (some ⟨w.heap.size, 0, Option.none⟩) ∧ σ' 10 = .bool (decide (c.toNat ≤ 32 ∨ 127 ≤ c.toNat))) ?_ ?_
  ·refine rq ?_; intro gd K hgd hK
   have hg2 : ∀ n σ b, wantV gd n σ (some (2, b)) = boolIs (ev n σ (.tmp 13)) b := (fun n σ b => by rw [wantV_some, show gd 2 = some 13 from (by rw [hgd]; rfl)]; rfl)
   by_cases c1 : (c.toNat : Int) ≤ 32
   ·try simp (disch := first | omega | assumption | rfl) only [↓reduceIte, go_sem, Nat.reduceLT, Nat.reduceEqDiff, Nat.reduceSub, byteV, decide_eq_true c1, ↓hg2]
    refine hK _ _ ?_; clear hK hgd; clear K; try clear gd
    refine ⟨rfl, rfl, rfl, by simp only [↓reduceIte, go_sem, Nat.reduceLT, Nat.reduceEqDiff, Nat.reduceSub, byteV], vq0, ?_⟩
    rw [show decide (c.toNat ≤ 32 ∨ 127 ≤ c.toNat) = true from decide_eq_true (.inl (by omega))]
    simp only [↓reduceIte, go_sem, Nat.reduceLT, Nat.reduceEqDiff, Nat.reduceSub]
   ·try simp (disch := first | omega | assumption | rfl) only [↓reduceIte, go_sem, Nat.reduceLT, Nat.reduceEqDiff, Nat.reduceSub, byteV, decide_eq_false c1, ↓hg2]
    refine hK _ _ ?_; clear hK hgd; clear K; try clear gd
    refine ⟨rfl, rfl, rfl, by simp only [↓reduceIte, go_sem, Nat.reduceLT, Nat.reduceEqDiff, Nat.reduceSub, byteV], vq0, ?_⟩
    rw [show decide (c.toNat ≤ 32 ∨ 127 ≤ c.toNat) = decide ((127 : Int) ≤ (c.toNat : Int)) from decide_eq_decide.2 ⟨fun h => by omega, fun h => .inr (by omega)⟩]
    simp only [↓reduceIte, go_sem, Nat.reduceLT, Nat.reduceEqDiff, Nat.reduceSub]
  rintro _ σ1 _ v1 ⟨rfl, rfl, hv1, h5, h3, h10⟩
  rw [hv1]
  clear hv1 v1
  repeat refine c_r ?_
  refine W_cond (t := decide (c.toNat ≤ 32 ∨ 127 ≤ c.toNat)) ((vq1 h10)) ?_ ?_
  ·intro hcc
   simp only [decide_eq_true_eq] at hcc
   have hlb : labB c = escB c := by unfold labB; rw [if_pos hcc]
   repeat refine c_r ?_
   refine rq ?_; intro gd K hgd hK
   try simp (disch := first | omega | assumption | rfl) only [↓reduceIte, go_sem, Nat.reduceLT, Nat.reduceEqDiff, Nat.reduceSub, h5, h3]
   refine Fn.mono (Escape_ok A2 c) ?_
   rintro _ z1 ⟨rfl, hz1⟩
   try simp (disch := first | omega | assumption | rfl) only [↓reduceIte, go_sem, Nat.reduceLT, Nat.reduceEqDiff, Nat.reduceSub, h3]
   have hBz := hK2.ext' hz1
   refine Fn.mono (WriteString_ok hBz (by have := hz1.size; omega) (by have : (escB c).length = 4 := rfl; omega)) ?_
   rintro _ z2 ⟨hBz2, hkz2⟩
   try simp (disch := first | omega | assumption | rfl) only [↓reduceIte, go_sem, Nat.reduceLT, Nat.reduceEqDiff, Nat.reduceSub]
   refine hK _ _ ?_; clear hK hgd; clear K; try clear gd
   repeat refine c_r ?_
   exact fin hlb.symm hBz2 ((hz1.mono (fun i _ h => h.elim)).trans hkz2)
  ·intro hcc
   simp only [decide_eq_false_iff_not] at hcc
   repeat refine c_r ?_
   refine rq ?_; intro gd K hgd hK
   try simp (disch := first | omega | assumption | rfl) only [↓reduceIte, go_sem, Nat.reduceLT, Nat.reduceEqDiff, Nat.reduceSub, h5]
   refine Fn.mono (IndexByte_ok A2 c) ?_
   rintro _ y0 ⟨rfl, hy0⟩
   try simp (disch := first | omega | assumption | rfl) only [↓reduceIte, go_sem, Nat.reduceLT, Nat.reduceEqDiff, Nat.reduceSub]
   rw [hy0]
   clear hy0 y0
   refine hK _ _ ?_; clear hK hgd; clear K; try clear gd
   have hhas := indexByte_has marksL c
   have tail : ∀ {z : World} {σ' : Sto} {bs : List UInt8}, bs ++ [c] = labB c → Bld (w3.heap.size + 2) z w.heap.size (textL (l.take pre.length) ++ bs) → Keep (fun i => i = w.heap.size ∨ w3.heap.size + 2 ≤ i) A2 z → σ' 5 = byteV c → σ' 3 = .pointer (some ⟨w.heap.size, 0, Option.none⟩) → bs.length ≤ 4 →
     Fn Tryz.prog 239 #[.pointer (some ⟨w.heap.size, 0, Option.none⟩), byteV c] z (fun _ z' => (Ext w z' ∧ Bld (w3.heap.size + 2) z' w.heap.size (textL (l.take (pre ++ [(c, pre.length)]).length))) ∧ KeepB (w3.heap.size + 2) (fun b => b = w.heap.size) A2 z') := fun {z σ' bs} hbs hBz hkz _ _ hb4 => by
    refine Fn.mono (WriteByte_ok hBz (by have := hkz.size; omega) (by simp; omega)) ?_
    rintro _ z' ⟨h1, h2⟩
    exact fin hbs (by rw [← List.append_assoc]; exact h1) (hkz.trans h2)
   repeat refine c_r ?_
   refine W_cond (t := marksL.contains c) (by rw [← hhas]; simp only [↓reduceIte, go_sem, Nat.reduceLT, Nat.reduceEqDiff, Nat.reduceSub]) ?_ ?_
   ·intro hm
    have hlb : labB c = [92, c] := by unfold labB; rw [if_neg hcc, if_pos hm]
    repeat refine c_r ?_
    refine rq ?_; intro gd K hgd hK
    try simp (disch := first | omega | assumption | rfl) only [↓reduceIte, go_sem, Nat.reduceLT, Nat.reduceEqDiff, Nat.reduceSub, h3]
    refine Fn.mono (WriteByte_ok (c := 92) hK2 (by omega) (by omega)) ?_
    rintro _ z1 ⟨hBz1, hkz1⟩
    try simp (disch := first | omega | assumption | rfl) only [↓reduceIte, go_sem, Nat.reduceLT, Nat.reduceEqDiff, Nat.reduceSub]
    refine hK _ _ ?_; clear hK hgd; clear K; try clear gd
    repeat refine c_r ?_
    refine rq ?_; intro gd K hgd hK
    try simp (disch := first | omega | assumption | rfl) only [↓reduceIte, go_sem, Nat.reduceLT, Nat.reduceEqDiff, Nat.reduceSub, h3, h5]
    refine Fn.mono (tail (σ' := σ1) (bs := [92]) hlb.symm hBz1 hkz1 h5 h3 (by decide)) ?_
    rintro _ z2 hz2
    try simp (disch := first | omega | assumption | rfl) only [↓reduceIte, go_sem, Nat.reduceLT, Nat.reduceEqDiff, Nat.reduceSub]
    refine hK _ _ ?_; clear hK hgd; clear K; try clear gd
    repeat refine c_r ?_
    exact hz2
   ·intro hm
    have hlb : labB c = [c] := by unfold labB; rw [if_neg hcc, if_neg (by rw [hm]; exact Bool.false_ne_true)]
    repeat refine c_r ?_
    refine rq ?_; intro gd K hgd hK
    try simp (disch := first | omega | assumption | rfl) only [↓reduceIte, go_sem, Nat.reduceLT, Nat.reduceEqDiff, Nat.reduceSub, h3, h5]
    refine Fn.mono (tail (σ' := σ1) (bs := []) hlb.symm (by simpa using hK2) (Keep.refl _ _) h5 h3 (by decide)) ?_
    rintro _ z2 hz2
    try simp (disch := first | omega | assumption | rfl) only [↓reduceIte, go_sem, Nat.reduceLT, Nat.reduceEqDiff, Nat.reduceSub]
    refine hK _ _ ?_; clear hK hgd; clear K; try clear gd
    repeat refine c_r ?_
    exact hz2
 ·intro A hszA ⟨hEA, hB⟩ hD
  rw [List.take_of_length_le (by simp)] at hB
  have htx : textL l ≠ [] := by
   cases l with
   | nil => exact absurd rfl h0
   | cons c l =>
    unfold textL
    rw [List.flatMap_cons]
    intro h
    exact labB_ne c (List.append_eq_nil_iff.1 h).1
  have hlt := textL_len l
  repeat refine c_r ?_
  refine rq ?_; intro gd K hgd hK
  try simp (disch := first | omega | assumption | rfl) only [↓reduceIte, go_sem, Nat.reduceLT, Nat.reduceEqDiff, Nat.reduceSub]
  refine Fn.mono (String_ok hB htx (by omega)) ?_
  rintro _ z ⟨rfl, hkz⟩
  try simp (disch := first | omega | assumption | rfl) only [↓reduceIte, go_sem, Nat.reduceLT, Nat.reduceEqDiff, Nat.reduceSub]
  refine hK _ _ ?_; clear hK hgd; clear K; try clear gd
  repeat refine c_r ?_
  refine ret_mark (v := vs (textL l)) (.inr rfl) (by rfl) Tryz.ntmps211 (vq0) ((hkz.block _ (by omega) (by omega)).trans hD) ?_
  intro Z hkZ hsZ
  exact ⟨rfl, Keep.to_ext (Keep.to_ext hEA rfl (fun b hb => by omega) hkz) rfl (fun b hb => by omega) hkZ⟩
end Go.Proofs.YtopbbjdembnfdaaGreat

namespace Go.Proofs.YtopbbjdembnfdaaGreat
open Go
set_option maxRecDepth 10000

theorem textN_len (n : Nm) : (n.flatMap fun l => textL l ++ [46]).length ≤ 4 * (n.map List.length).sum + n.length := by
 induction n with
 | nil => simp
 | cons l n ih =>
  have := textL_len l
  rw [List.flatMap_cons, List.length_append, List.map_cons, List.sum_cons, List.length_cons]
  simp only [List.length_append, List.length_singleton]
  omega

theorem NText_ok (w : World) (nv : Value) (n : Nm) (hn : Row w nv (n.map vs)) (hne : ∀ l ∈ n, l ≠ []) (hl : ∀ l ∈ n, l.length ≤ 1000000) (hnl : n.length ≤ 1000) :
  Fn Tryz.prog 179 #[nv] w (fun v w' => v = vs (textN n) ∧ Ext w w') := by
 obtain ⟨an, cn, rfl, hcn, hgn⟩ := hn
 simp only [List.length_map] at hcn hgn
 rw [List.length_map]
 refine enter Tryz.func179 Tryz.ntmps179 rfl rfl ?_
 repeat refine c_r ?_
 refine rg0 ?_
 repeat refine c_r ?_
 refine rg0 ?_
 repeat refine c_r ?_
 refine wc0 ?_ ?_
 ·intro h0
  simp only [decide_eq_true_eq] at h0
  have hn0 : n = [] := List.length_eq_zero_iff.1 (by omega)
  repeat (first | refine c_r ?_ | refine rg0 ?_)
  refine rt0 Tryz.ntmps179 ?_
  exact ⟨by unfold textN; rw [if_pos hn0], Keep.refl _ _⟩
 intro h0
 simp only [decide_eq_false_iff_not] at h0
 have hn0 : n ≠ [] := fun h => h0 (by rw [h]; rfl)
 repeat refine c_r ?_
 refine rg0 ?_
 refine W_alloc1 ?_
 intro w1 hE1 hs1 hA
 repeat refine c_r ?_
 refine rg0 ?_
 repeat refine c_r ?_
 refine W_loop (fun m σ ds A => ds = [] ∧ ∃ (i : Nat), i + m = n.length ∧ σ 11 = vi i ∧ σ 10 = vi n.length ∧ σ 9 = .slice an n.length cn ∧ σ 3 = .pointer (some ⟨w.heap.size, 0, Option.none⟩) ∧ Ext w A ∧ w1.heap.size ≤ A.heap.size ∧ Bld w1.heap.size A w.heap.size ((n.take i).flatMap fun l => textL l ++ [46])) n.length ?_ ?_
 ·exact ⟨rfl, 0, by omega, vr0, vq0, vq0, vq0, hE1, Nat.le_refl _, _, _, .inl rfl, hA, Own.nil _ _ _⟩
 rintro m σ ds A ⟨rfl, i, him, h11, h10, h9, h3, hEA, hsA, hB⟩
 repeat refine c_r ?_
 refine rq ?_; intro gd K hgd hK; simp (disch := first | omega | assumption | rfl) only [↓reduceIte, go_sem, Nat.reduceLT, Nat.reduceEqDiff, Nat.reduceSub, h11, h10]; refine hK _ _ ?_; clear hK hgd; clear K gd
 repeat refine c_r ?_
 refine wc0 ?_ ?_
 ·intro hlt
  simp only [decide_eq_true_eq] at hlt
  have hi : i < n.length := by omega
  have hi0 : (0 : Int) ≤ (i : Int) := by omega
  have hi1 : (i : Int) < (n.length : Int) := by omega
  have hi1' : (i : Int) + 1 = ((i + 1 : Nat) : Int) := by push_cast; rfl
  have hg := cellO_ext hEA (hgn i (by simpa using hi))
  rw [List.getElem_map] at hg
  obtain ⟨l, hle⟩ : ∃ l, n[i] = l := ⟨_, rfl⟩
  rw [hle] at hg
  have hmem : l ∈ n := hle ▸ List.getElem_mem hi
  obtain ⟨xn, rfl⟩ := Option.isSome_iff_exists.1 (some_of_cellO hg)
  have hpl : ((n.take i).flatMap fun l => textL l ++ [46]).length ≤ 5000000000 := by
   have h1 := textN_len (n.take i)
   have h2 : ((n.take i).map List.length).sum ≤ 1000000 * n.length := by
    have : ∀ (k : Nm), (∀ l ∈ k, l.length ≤ 1000000) → (k.map List.length).sum ≤ 1000000 * k.length := fun k => by
     induction k with
     | nil => intro _; simp
     | cons x k ih =>
      intro h
      have h3 := ih (fun l hl => h l (List.mem_cons_of_mem _ hl))
      have h4 := h x (List.mem_cons_self ..)
      rw [List.map_cons, List.sum_cons, List.length_cons]; omega
    have h3 := this (n.take i) (fun l hl' => hl l (List.mem_of_mem_take hl'))
    rw [List.length_take] at h3; omega
   rw [List.length_take] at h1; omega
  have htl := textL_len l
  have hll := hl l hmem
  have hadd : (textL l).length + ([46] : List UInt8).length ≤ 9223372036854775807 := by rw [List.length_singleton]; omega
  repeat refine c_r ?_
  refine rq ?_; intro gd K hgd hK; simp (disch := first | omega | assumption | rfl) only [↓reduceIte, go_sem, Nat.reduceLT, Nat.reduceEqDiff, Nat.reduceSub, h9, h11, hi0, hi1, hg]; refine hK _ _ ?_; clear hK hgd; clear K gd
  repeat refine c_r ?_
  refine rq ?_; intro gd K hgd hK
  try simp (disch := first | omega | assumption | rfl) only [↓reduceIte, go_sem, Nat.reduceLT, Nat.reduceEqDiff, Nat.reduceSub]
  refine Fn.mono (LText_ok A l (hne l hmem) (by omega)) ?_
  rintro _ A1 ⟨rfl, hE2⟩
  try simp (disch := first | omega | assumption | rfl) only [↓reduceIte, go_sem, Nat.reduceLT, Nat.reduceEqDiff, Nat.reduceSub, h3]
  refine Fn.mono (WriteString_ok (s := textL l ++ [46]) (hB.ext' hE2) (by have := hE2.size; omega) (by rw [List.length_append, List.length_singleton]; omega)) ?_
  rintro _ A2 ⟨hB2, hk2⟩
  try simp (disch := first | omega | assumption | rfl) only [↓reduceIte, go_sem, Nat.reduceLT, Nat.reduceEqDiff, Nat.reduceSub]
  refine hK _ _ ?_; clear hK hgd; clear K; try clear gd
  repeat refine c_r ?_
  refine rq ?_; intro gd K hgd hK; simp (disch := first | omega | assumption | rfl) only [↓reduceIte, go_sem, Nat.reduceLT, Nat.reduceEqDiff, Nat.reduceSub, h11, hi1']; refine hK _ _ ?_; clear hK hgd; clear K gd
  repeat refine c_r ?_
  refine ⟨m - 1, by omega, rfl, i + 1, by omega, vq0, (vq1 h10), (vq1 h9), (vq1 h3), Keep.to_ext (hEA.trans hE2) rfl (fun b hb => by omega) hk2, by have := hE2.size; have := hk2.size; omega, ?_⟩
  rw [take_succ' hi, List.flatMap_append, hle]
  simpa using hB2
 ·intro hge
  simp only [decide_eq_false_iff_not] at hge
  rw [List.take_of_length_le (by omega)] at hB
  have htx : (n.flatMap fun l => textL l ++ [46]) ≠ [] := by
   cases n with
   | nil => exact absurd rfl hn0
   | cons l n =>
    rw [List.flatMap_cons]
    intro h
    have := (List.append_eq_nil_iff.1 (List.append_eq_nil_iff.1 h).1).2
    cases this
  have hpl : (n.flatMap fun l => textL l ++ [46]).length ≤ 5000000000 := by
   have h1 := textN_len n
   have : ∀ (k : Nm), (∀ l ∈ k, l.length ≤ 1000000) → (k.map List.length).sum ≤ 1000000 * k.length := fun k => by
    induction k with
    | nil => intro _; simp
    | cons x k ih =>
     intro h
     have h3 := ih (fun l hl => h l (List.mem_cons_of_mem _ hl))
     have h4 := h x (List.mem_cons_self ..)
     rw [List.map_cons, List.sum_cons, List.length_cons]; omega
   have h3 := this n hl
   omega
  repeat refine c_r ?_
  refine rq ?_; intro gd K hgd hK
  try simp (disch := first | omega | assumption | rfl) only [↓reduceIte, go_sem, Nat.reduceLT, Nat.reduceEqDiff, Nat.reduceSub, h3]
  refine Fn.mono (String_ok hB htx (by omega)) ?_
  rintro _ z ⟨rfl, hkz⟩
  try simp (disch := first | omega | assumption | rfl) only [↓reduceIte, go_sem, Nat.reduceLT, Nat.reduceEqDiff, Nat.reduceSub]
  refine hK _ _ ?_; clear hK hgd; clear K; try clear gd
  repeat refine c_r ?_
  refine rt0 Tryz.ntmps179 ?_
  exact ⟨by unfold textN; rw [if_neg hn0], Keep.to_ext hEA rfl (fun b hb => by omega) hkz⟩

end Go.Proofs.YtopbbjdembnfdaaGreat

namespace Go.Proofs.YtopbbjdembnfdaaGreat
open Go
set_option maxRecDepth 10000

end Go.Proofs.YtopbbjdembnfdaaGreat

namespace Go.Proofs.YtopbbjdembnfdaaGreat
open Go

theorem find_at' {key : Lab} {v : Value} : ∀ (es : List MapEntry) (l : List (Lab × Value)) (i : Nat), es.map (fun e => (e.key, e.val)) = l.map (fun p => (vs p.1, p.2)) → l.lookup key = some v → ∃ j e, Instr.findNow .string (vs key) es i = some (some (i + j, v)) ∧ es[j]? = some e ∧ e.key = vs key ∧ e.val = v
 | [], [], _, _, h => by simp at h
 | [], _ :: _, _, h, _ => by simp at h
 | _ :: _, [], _, h, _ => by simp at h
 | e :: es, (k, u) :: l, i, h, hl => by
  simp only [List.map_cons, List.cons.injEq, Prod.mk.injEq] at h
  obtain ⟨⟨h1, h2⟩, h3⟩ := h
  simp only [List.lookup_cons] at hl
  split at hl
  ·rename_i heq
   cases hl
   have : key = k := by simpa using heq
   subst this
   exact ⟨0, e, by simp only [Instr.findNow, h1, sameNow_vs, heq, h2, Nat.add_zero], rfl, h1, h2⟩
  ·rename_i hne
   obtain ⟨j, e', g1, g2, g3⟩ := find_at' es l (i + 1) h3 hl
   exact ⟨j + 1, e', by simp only [Instr.findNow, h1, sameNow_vs, hne]; rw [g1]; congr 3; omega, by simpa using g2, g3⟩

section
variable {P : Program} {d : Option Tmp} {ty : TypeId} {ps : String} {af : Array Edge} {g : Option (Nat × Bool)} {ρ : Operand → Value} {w : World} {K : Value → World → Prop}
theorem op_lookup {t : TypeId} {m k : Operand} {ok : Bool} {mv kv v : Value} (hm : ρ m = mv) (hk : ρ k = kv) (h : lkV P w t mv kv ok = some v) (hK : K v w) : opW P ⟨d, .lookup t m k ok, ty, ps, af, g⟩ ρ w K := by
 have := opR_val (P := P) (K := K) (lkV_run h) hK
 rw [← hm, ← hk] at this
 exact this
theorem op_mapSame {t kt et : TypeId} {m k x : Operand} {r : Nat} {l : List (Lab × Value)} {key : Lab} {v : Value} (ht : tyU P t = some (.map kt et)) (hk : tyU P kt = some .string)
  (hm : ρ m = .map (some r)) (hkey : ρ k = vs key) (hx : ρ x = v) (hat : MapAt w r l) (hin : l.lookup key = some v)
  (h : ∀ w', MapAt w' r l → Keep (fun i => i = r) w w' → w'.heap.size = w.heap.size → K undef w') :
  opW P ⟨d, .mapUpdate t m k x, ty, ps, af, g⟩ ρ w K := by
 obtain ⟨es, clk, h1, h2, h3, h4⟩ := hat
 obtain ⟨j, e, hf, hj, hek, hev⟩ := find_at' es.toList l 0 h2 hin
 rw [Nat.zero_add] at hf
 have hj' : es[j]? = some e := by simpa using hj
 have hrun : (Instr.mapUpdate t (.map (some r)) (vs key) v).run P w = .ok () (w.putObj r (.map (es.modify j fun e => { e with key := vs key, val := v }) clk)) := by
  have hck : ∀ e, (Instr.checkKey e 10000 kt (vs key)).run P w = .ok () w := fun e => checkKey_string hk 9999
  have hst : (Instr.keyThatStays (vs key) (vs key)).run P w = .ok (vs key) w := MapKept.run_keyThatStays (d := .string) trivial
  simp [Instr.mapUpdate, run_underlying (show P.underlying t = _ from ht), MapKept.run_getObj_map h1, hck, Instr.findKey, run_underlying (show P.underlying kt = _ from hk), hf, hj', hek, hst, MapKept.run_setObj_map _ h1, Result.andThen]
  rfl
 have hlt : r < w.heap.size := (Array.getElem?_eq_some_iff.1 h1).1
 have hsame : ∀ i : Nat, (es.modify j fun e => { e with key := vs key, val := v })[i]? = es[i]? := fun i => by
  rw [Array.getElem?_modify]
  split
  ·rename_i hi
   rw [← hi, hj']
   cases e
   simp only at hek hev
   subst hek hev
   rfl
  ·rfl
 have hmod : (es.modify j fun e => { e with key := vs key, val := v }) = es := Array.ext_getElem? hsame
 rw [hmod] at hrun
 have hat' : MapAt (w.putObj r (.map es clk)) r l := ⟨es, clk, World.putObj_heap_same hlt, h2, h3, h4⟩
 have hfin := h _ hat' (keep_put rfl) (by simp)
 show opR P K ((do Instr.mapUpdate t (ρ m) (ρ k) (ρ x); pure .skip : Sem Next).run P w)
 rw [hm, hkey, hx]
 simp only [Sem.run_bind, hrun, Result.andThen_ok, Sem.run_pure]
 exact hfin
end
end Go.Proofs.YtopbbjdembnfdaaGreat

namespace Go.Proofs.YtopbbjdembnfdaaGreat
open Go
set_option maxRecDepth 10000

def hostsG (had : List (List UInt8)) : List Nm → List Nm
 | [] => []
 | h :: l => if had.contains (textN h) then hostsG had l else h :: hostsG (textN h :: had) l
def hostsL (t : Int) (ds : List DatL) : List Nm := hostsG [] (targetsL t ds)
structure NmG (n : Nm) : Prop where
 ne : ∀ l ∈ n, l ≠ []
 lb : ∀ l ∈ n, l.length ≤ 1000000
 len : n.length ≤ 1000
theorem NmG.m {n : Nm} (h : NmG n) : NmM n := ⟨h.lb, by have := h.len; omega⟩

def encH (w0 : World) (_ : Nat) (x : Nm) (_ : Nat → Prop) (_ : World) (args : Array Value) : Prop := ∃ v, args = #[v] ∧ Row w0 v (x.map vs)

theorem lookup_push {M : List (Lab × Value)} {t k : Lab} {v : Value} (h : M.lookup t = Option.none) : (M ++ [(t, v)]).lookup k = if k == t then some v else M.lookup k := by
 induction M with
 | nil =>
  simp only [List.nil_append, List.lookup_cons, List.lookup_nil]
  split <;> simp_all
 | cons p M ih =>
  obtain ⟨q, u⟩ := p
  simp only [List.lookup_cons] at h
  split at h
  ·cases h
  ·rename_i hne
   simp only [List.cons_append, List.lookup_cons]
   by_cases hk : (k == q) = true
   ·simp only [hk]
    have hkq : k = q := by simpa using hk
    have : (k == t) = false := by
     rw [hkq]
     exact beq_eq_false_iff_ne.2 (fun e => by rw [e] at hne; simp at hne)
    rw [this]; rfl
   ·have hk' : (k == q) = false := by simpa using hk
    simp only [hk']
    exact ih h

theorem hostsIt {w0 W0 : World} {C : Nat → Prop} {bs : Nat} {ow tl dv : Value} {t : Int} {ds : List DatL} (hE0 : Ext w0 W0) (hb : W0.heap[bs]? = some (.cells #[ow, vi t, tl, dv] 209 (0, 0))) (how : one ow = true) (htl : one tl = true) (hd : Rows 5 (DatAt w0) W0 dv ds)
  (hC : ∀ b, C b → w0.heap.size ≤ b ∧ b < W0.heap.size) (hlen : ds.length ≤ 1000000000) (hgood : ∀ n ∈ targetsL t ds, NmG n) :
  IterU Tryz.prog 177 #[.pointer (some ⟨bs, 0, Option.none⟩)] W0 W0.heap.size C 1 (fun pre x => ∃ suf, hostsL t ds = pre ++ x :: suf) (fun xs => xs = hostsL t ds) (encH w0) := by
 intro lp J Jx W hW hnW hJ hJx hY h0
 have hs0 := hE0.size
 refine enter Tryz.func177 Tryz.ntmps177 rfl rfl ?_
 repeat refine c_r ?_
 refine rg0 ?_
 have hm0 := new_map W
 have hEm := Ext.alloc W (.map #[] 0)
 have hsm := new_size W (.map #[] 0)
 revert hm0 hEm hsm
 generalize W.alloc (.map #[] 0) = W1
 intro hm0 hEm hsm
 have hb1 := Ext.at (hW.trans hEm) hb
 have d4 := sv_cells (n := 4) (l := [ow, vi t, tl, dv]) hb1 rfl
 repeat refine c_r ?_
 refine rq ?_; intro gd K hgd hK
 try simp (disch := first | omega | assumption | rfl) only [↓reduceIte, go_sem, Nat.reduceLT, Nat.reduceEqDiff, Nat.reduceSub, d4]
 refine Fn.mono (Targets_ok (hE0.trans (hW.trans hEm)) how htl (hd.ext (hW.trans hEm)) hlen) ?_
 rintro tv X ⟨hEX, htv, htb⟩
 obtain ⟨aT, cT, rfl, hcT, hgT⟩ := htv.open
 obtain ⟨L, hL⟩ : ∃ L, targetsL t ds = L := ⟨_, rfl⟩
 have hH : hostsL t ds = hostsG [] L := by unfold hostsL; rw [hL]
 rw [hL] at htv htb hcT hgood ⊢
 simp only [hL] at hgT
 try simp (disch := first | omega | assumption | rfl) only [↓reduceIte, go_sem, Nat.reduceLT, Nat.reduceEqDiff, Nat.reduceSub]
 refine hK _ _ ?_; clear hK hgd; clear K; try clear gd
 have hLl : L.length ≤ 1000000000 := by
  rw [← hL]; unfold targetsL
  split
  ·have := List.length_filterMap_le (fun d : DatL => d.names.head?) ds; omega
  ·simp
 have hEWX := hEm.trans hEX
 have hmX : MapAt X W.heap.size [] := hm0.block (hEX.block _ (by omega) (fun h => h))
 have hsX := hEX.size
 repeat refine c_r ?_
 refine W_loop (fun m σ ds' v => ds' = [] ∧ ∃ (i : Nat) (pre : List Nm) (U : Nat → Prop) (had : List (List UInt8)) (M : List (Lab × Value)), i + m = L.length ∧ hostsG [] L = pre ++ hostsG had (L.drop i) ∧ σ 11 = vi i ∧ σ 10 = vi L.length ∧ σ 9 = .slice aT L.length cT ∧ σ 0 = .func (.yield lp) #[] #[] ∧ σ 3 = .map (some W.heap.size) ∧
  J pre U v ∧ (∀ b, U b → X.heap.size ≤ b) ∧ X.heap.size ≤ v.heap.size ∧ KeepB W0.heap.size C W v ∧ Ext w0 v ∧ MapAt v W.heap.size M ∧ (∀ k, M.lookup k = if had.contains k then some (.bool true) else Option.none) ∧ Rows 1 (NmC w0) v (.slice aT L.length cT) L) L.length ?_ ?_
 ·refine ⟨rfl, 0, [], NoS, [], [], by omega, rfl, vr0, vq0, vq0, vq0, vq0, hJ _ _ _ _ h0 (hEWX.mono (fun _ _ h => h.elim)), fun b h => h.elim, Nat.le_refl _, hEWX.toB (by omega) (fun _ _ h => h.elim), hE0.trans (hW.trans hEWX), hmX, fun k => by simp, htv⟩
 rintro m σ ds' v ⟨rfl, i, pre, U, had, M, him, hpre, h11, h10, h9, hf0, h3, hj, hU, hsv, hKB, hEv, hM, hMl, hrow⟩
 repeat refine c_r ?_
 refine rq ?_; intro gd K hgd hK; simp (disch := first | omega | assumption | rfl) only [↓reduceIte, go_sem, Nat.reduceLT, Nat.reduceEqDiff, Nat.reduceSub, h11, h10]; refine hK _ _ ?_; clear hK hgd; clear K gd
 repeat refine c_r ?_
 refine wc0 ?_ ?_
 ·intro hlt
  simp only [decide_eq_true_eq] at hlt
  have hi : i < L.length := by omega
  have hi0 : (0 : Int) ≤ (i : Int) := by omega
  have hi1 : (i : Int) < (L.length : Int) := by omega
  have hi1' : (i : Int) + 1 = ((i + 1 : Nat) : Int) := by push_cast; rfl
  obtain ⟨h, hh⟩ : ∃ h, L[i] = h := ⟨_, rfl⟩
  have hgh : NmG h := hh ▸ hgood _ (List.getElem_mem hi)
  obtain ⟨cs, hcs, hv, rfl, hvr⟩ := hrow.get hi
  rw [hh] at hvr
  have hcell : cellO v (adr aT i) = some hv := by
   have := cell_of_cells hcs (j := 0) rfl
   rwa [Nat.mul_one, adr_zero] at this
  obtain ⟨xT, rfl⟩ := Option.isSome_iff_exists.1 (some_of_cellO hcell)
  have hdr : L.drop i = h :: L.drop (i + 1) := by rw [List.drop_eq_getElem_cons hi, hh]
  rw [hdr] at hpre
  repeat refine c_r ?_
  refine rq ?_; intro gd K hgd hK; simp (disch := first | omega | assumption | rfl) only [↓reduceIte, go_sem, Nat.reduceLT, Nat.reduceEqDiff, Nat.reduceSub, h9, h11, hi0, hi1, hcell]; refine hK _ _ ?_; clear hK hgd; clear K gd
  repeat refine c_r ?_
  refine rq ?_; intro gd K hgd hK
  try simp (disch := first | omega | assumption | rfl) only [↓reduceIte, go_sem, Nat.reduceLT, Nat.reduceEqDiff, Nat.reduceSub]
  refine Fn.mono (NText_ok v hv h (hvr.ext hEv) hgh.ne hgh.lb hgh.len) ?_
  rintro _ v1 ⟨rfl, hE1⟩
  try simp (disch := first | omega | assumption | rfl) only [↓reduceIte, go_sem, Nat.reduceLT, Nat.reduceEqDiff, Nat.reduceSub]
  refine hK _ _ ?_; clear hK hgd; clear K; try clear gd
  have hs1 := hE1.size
  have hj1 := hJ _ _ _ _ hj (hE1.mono (fun _ _ h => h.elim))
  have hK1 : KeepB W0.heap.size C W v1 := hKB.trans (hE1.toB (by omega) (fun _ _ h => h.elim))
  have hM1 : MapAt v1 W.heap.size M := hM.block (hE1.block _ (by omega) (fun h => h))
  have hrow1 := hrow.ext hE1
  have hEv1 := hEv.trans hE1
  have hlk := hM1.lk (P := Tryz.prog) (t := 272) (kt := 9) (et := 4) (z := .bool false) rfl rfl rfl (textN h)
  rw [hMl] at hlk
  -- the next round
  have next : ∀ {z : World} {σ' : Sto} {pre' : List Nm} {U' : Nat → Prop} {had' : List (List UInt8)} {M' : List (Lab × Value)}, hostsG [] L = pre' ++ hostsG had' (L.drop (i + 1)) → J pre' U' z → (∀ b, U' b → X.heap.size ≤ b) → X.heap.size ≤ z.heap.size → KeepB W0.heap.size C W z → Ext w0 z → MapAt z W.heap.size M' →
    (∀ k, M'.lookup k = if had'.contains k then some (.bool true) else Option.none) → Rows 1 (NmC w0) z (.slice (some xT) L.length cT) L → σ' 11 = vi ((i + 1 : Nat) : Int) → σ' 10 = vi L.length → σ' 9 = .slice (some xT) L.length cT → σ' 0 = .func (.yield lp) #[] #[] → σ' 3 = .map (some W.heap.size) →
    ∃ m', m' < m ∧ ([] : List Deferred) = [] ∧ ∃ (i : Nat) (pre : List Nm) (U : Nat → Prop) (had : List (List UInt8)) (M : List (Lab × Value)), i + m' = L.length ∧ hostsG [] L = pre ++ hostsG had (L.drop i) ∧ σ' 11 = vi i ∧ σ' 10 = vi L.length ∧ σ' 9 = .slice (some xT) L.length cT ∧ σ' 0 = .func (.yield lp) #[] #[] ∧ σ' 3 = .map (some W.heap.size) ∧
     J pre U z ∧ (∀ b, U b → X.heap.size ≤ b) ∧ X.heap.size ≤ z.heap.size ∧ KeepB W0.heap.size C W z ∧ Ext w0 z ∧ MapAt z W.heap.size M ∧ (∀ k, M.lookup k = if had.contains k then some (.bool true) else Option.none) ∧ Rows 1 (NmC w0) z (.slice (some xT) L.length cT) L :=
   fun a1 a2 a3 a4 a5 a6 a7 a8 a9 b1 b2 b3 b4 b5 => ⟨m - 1, by omega, rfl, i + 1, _, _, _, _, by omega, a1, b1, b2, b3, b4, b5, a2, a3, a4, a5, a6, a7, a8, a9⟩
  by_cases hcon : had.contains (textN h) = true
  ·rw [if_pos hcon] at hlk
   have hskip : hostsG had (h :: L.drop (i + 1)) = hostsG had (L.drop (i + 1)) := by
    show (if had.contains (textN h) then _ else _) = _
    rw [if_pos hcon]
   rw [hskip] at hpre
   repeat refine c_r ?_
   refine rq ?_; intro gd K hgd hK
   have hg4 : ∀ n σ b, wantV gd n σ (some (4, b)) = boolIs (ev n σ (.tmp 21)) b := (fun n σ b => by rw [wantV_some, show gd 4 = some 21 from (by rw [hgd]; rfl)]; rfl)
   rw [Option.getD_some] at hlk
   try simp (disch := first | omega | assumption | rfl) only [↓reduceIte, go_sem, Nat.reduceLT, Nat.reduceEqDiff, Nat.reduceSub, h3, ↓hg4]
   refine op_lookup (vq0) (vq0) hlk ?_
   try simp (disch := first | omega | assumption | rfl) only [↓reduceIte, go_sem, Nat.reduceLT, Nat.reduceEqDiff, Nat.reduceSub, ↓hg4]
   refine hK _ _ ?_; clear hK hgd; clear K; try clear gd
   repeat refine c_r ?_
   refine wc0 ?_ ?_
   ·intro h; cases h
   intro _
   repeat refine c_r ?_
   refine rq ?_; intro gd K hgd hK
   try simp (disch := first | omega | assumption | rfl) only [↓reduceIte, go_sem, Nat.reduceLT, Nat.reduceEqDiff, Nat.reduceSub, h3]
   refine op_mapSame (v := .bool true) (l := M) (key := textN h) rfl rfl (vq0) (vq0) (vq0) hM1 (by rw [hMl, if_pos hcon]) ?_
   intro z hMz hkz hsz
   try simp (disch := first | omega | assumption | rfl) only [↓reduceIte, go_sem, Nat.reduceLT, Nat.reduceEqDiff, Nat.reduceSub]
   refine hK _ _ ?_; clear hK hgd; clear K; try clear gd
   repeat refine c_r ?_
   refine rq ?_; intro gd K hgd hK; simp (disch := first | omega | assumption | rfl) only [↓reduceIte, go_sem, Nat.reduceLT, Nat.reduceEqDiff, Nat.reduceSub, h11, hi1']; refine hK _ _ ?_; clear hK hgd; clear K gd
   repeat refine c_r ?_
   refine next hpre (hJ _ _ _ _ hj1 (hkz.mono (fun b _ h => by unfold span; omega))) hU (by omega) (hK1.trans (hkz.toB (by omega) (fun b hb h => by omega))) (Keep.to_ext hEv1 rfl (fun b hb => by omega) hkz) hMz hMl (hrow1.keep hkz (htb.ext (by omega)) (fun b hb _ => by omega)) (vq0) ((vq1 h10)) ((vq1 h9)) ((vq1 hf0)) ((vq1 h3))
  ·rw [if_neg hcon, Option.getD_none] at hlk
   have hno : M.lookup (textN h) = Option.none := by rw [hMl, if_neg hcon]
   have hcf : had.contains (textN h) = false := by simpa using hcon
   have hgo : hostsG had (h :: L.drop (i + 1)) = h :: hostsG (textN h :: had) (L.drop (i + 1)) := by
    show (if had.contains (textN h) then _ else _) = _
    rw [if_neg hcon]
   rw [hgo] at hpre
   have hsuf : ∃ suf, hostsL t ds = pre ++ h :: suf := ⟨_, by rw [hH, hpre]⟩
   repeat refine c_r ?_
   refine rq ?_; intro gd K hgd hK
   have hg4 : ∀ n σ b, wantV gd n σ (some (4, b)) = boolIs (ev n σ (.tmp 21)) b := (fun n σ b => by rw [wantV_some, show gd 4 = some 21 from (by rw [hgd]; rfl)]; rfl)
   try simp (disch := first | omega | assumption | rfl) only [↓reduceIte, go_sem, Nat.reduceLT, Nat.reduceEqDiff, Nat.reduceSub, h3, ↓hg4]
   refine op_lookup (vq0) (vq0) hlk ?_
   try simp (disch := first | omega | assumption | rfl) only [↓reduceIte, go_sem, Nat.reduceLT, Nat.reduceEqDiff, Nat.reduceSub, h3, hf0, ↓hg4]
   refine Yld.mono (hY pre U h v1 _ hsuf hj1 (by omega) hK1 ⟨hv, rfl, hvr⟩) ?_
   rintro u z (⟨rfl, U', hj', hU', hkr⟩ | ⟨rfl, hjx⟩)
   ·try simp (disch := first | omega | assumption | rfl) only [↓reduceIte, go_sem, Nat.reduceLT, Nat.reduceEqDiff, Nat.reduceSub, ↓hg4]
    refine hK _ _ ?_; clear hK hgd; clear K; try clear gd
    have hzs := hkr.size
    have hCb : ∀ b, W.heap.size ≤ b → b < X.heap.size → ¬ (C b ∨ U b) := fun b h1 h2 h3 => by
     rcases h3 with h3 | h3
     ·have := hC b h3; omega
     ·have := hU b h3; omega
    have hMz : MapAt z W.heap.size M := hM1.block (hkr.block _ (by omega) (.inr (Nat.le_refl _)) (hCb _ (Nat.le_refl _) (by omega)))
    have hrowz : Rows 1 (NmC w0) z (.slice (some xT) L.length cT) L := hrow1.blocks fun a n c hv => by
     have h1 := htb a n c hv
     exact hkr.block _ (by omega) (.inr (by omega)) (hCb _ (by omega) h1.2)
    have hKz : KeepB W0.heap.size C W z := hK1.trans ⟨hkr.os, hkr.tape, hkr.output, hkr.size, fun b hb hc => hkr.block b (by omega) (.inl hb) (fun h => by
     rcases h with h | h
     ·exact hc h
     ·have := hU b h; omega), hkr.drawn⟩
    have hEz : Ext w0 z := keepB_ext (hE0.trans hW) hKz hs0 (fun b hb => (hC b hb).1)
    repeat refine c_r ?_
    refine wc0 ?_ ?_
    ·intro h; cases h
    intro _
    repeat refine c_r ?_
    refine rq ?_; intro gd K hgd hK
    try simp (disch := first | omega | assumption | rfl) only [↓reduceIte, go_sem, Nat.reduceLT, Nat.reduceEqDiff, Nat.reduceSub, h3]
    refine op_mapUpdate (v := .bool true) (l := M) (key := textN h) rfl rfl (vq0) (vq0) (vq0) hMz hno ?_
    intro z2 hMz2 hkz hsz
    try simp (disch := first | omega | assumption | rfl) only [↓reduceIte, go_sem, Nat.reduceLT, Nat.reduceEqDiff, Nat.reduceSub]
    refine hK _ _ ?_; clear hK hgd; clear K; try clear gd
    repeat refine c_r ?_
    refine rq ?_; intro gd K hgd hK; simp (disch := first | omega | assumption | rfl) only [↓reduceIte, go_sem, Nat.reduceLT, Nat.reduceEqDiff, Nat.reduceSub, h11, hi1']; refine hK _ _ ?_; clear hK hgd; clear K gd
    repeat refine c_r ?_
    refine next (pre' := pre ++ [h]) (had' := textN h :: had) (by rw [hpre]; simp) (hJ _ _ _ _ hj' (hkz.mono (fun b _ h => by unfold span; omega))) (fun b hb => by
     rcases hU' b hb with h | h
     ·exact hU b h
     ·omega) (by omega) (hKz.trans (hkz.toB (by omega) (fun b hb h => by omega))) (Keep.to_ext hEz rfl (fun b hb => by omega) hkz) hMz2 (fun k => ?_) (hrowz.keep hkz (htb.ext (by omega)) (fun b hb _ => by omega)) (vq0) ((vq1 h10)) ((vq1 h9)) ((vq1 hf0)) ((vq1 h3))
    rw [lookup_push hno, hMl, List.contains_cons]
    by_cases hk : (k == textN h) = true
    ·rw [if_pos hk, hk]; rfl
    ·rw [if_neg hk]
     have : (k == textN h) = false := by simpa using hk
     rw [this, Bool.false_or]
   ·try simp (disch := first | omega | assumption | rfl) only [↓reduceIte, go_sem, Nat.reduceLT, Nat.reduceEqDiff, Nat.reduceSub, ↓hg4]
    refine hK _ _ ?_; clear hK hgd; clear K; try clear gd
    repeat refine c_r ?_
    refine wc0 ?_ ?_
    ·intro _
     repeat refine c_r ?_
     refine ret_none (by simp) rfl (.inr ⟨_, _, hsuf, hjx⟩)
    ·intro h; cases h
 ·intro hge
  simp only [decide_eq_false_iff_not] at hge
  rw [List.drop_eq_nil_of_le (by omega)] at hpre
  have hfin : pre = hostsL t ds := by rw [hH, hpre]; simp [hostsG]
  repeat refine c_r ?_
  refine ret_none (by simp) rfl (.inl ⟨_, U, rfl, hfin ▸ hj⟩)

theorem hosts_ok {w : World} {ow tl dv : Value} {t : Int} :
  Fn Tryz.prog 129 #[.agg #[ow, vi t, tl, dv]] w (fun v w' => v = .func (.func 177) #[] #[.pointer (some ⟨w.heap.size, 0, Option.none⟩)] ∧ Ext w w' ∧ w'.heap.size = w.heap.size + 1 ∧ w'.heap[w.heap.size]? = some (.cells #[ow, vi t, tl, dv] 209 (0, 0))) := by
 refine enter Tryz.func129 Tryz.ntmps129 rfl rfl ?_
 repeat refine c_r ?_
 refine rg0 ?_
 repeat refine c_r ?_
 refine W_alloc1 ?_
 intro w1 hE1 hs1 hA
 refine rg0 ?_
 repeat refine c_r ?_
 refine rt0 Tryz.ntmps129 ?_
 exact ⟨rfl, hE1, hs1, hA⟩
end Go.Proofs.YtopbbjdembnfdaaGreat
