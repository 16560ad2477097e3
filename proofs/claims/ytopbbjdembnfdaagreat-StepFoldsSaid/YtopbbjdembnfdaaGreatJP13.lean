/-
  Texts of a proof, joined: X0, X1, X7, X2, KC, KN, KR, KR2, G8, L3.
  Conditions: none.
-/
import Derived.Test.YtopbbjdembnfdaaGreatJP12
import Derived.ProofKit
import Derived.OpenShut
import Derived.SizedLaws
import Derived.Deep.Slices
import Derived.Test.YtopbbjdembnfdaaGreatJP02
import Derived.Test.YtopbbjdembnfdaaGreatJP03
import Derived.Test.YtopbbjdembnfdaaGreatJP10
set_option linter.unusedVariables false
set_option linter.unusedSimpArgs false
set_option linter.defProp false
set_option linter.unnecessarySimpa false
namespace Go.Proofs.YtopbbjdembnfdaaGreat
open Go
set_option maxRecDepth 10000
def goodS (N : NetL) (s : StateL) : Bool := decide (s.sv ≥ 0) && (decide (s.sv < (N.hosts.length : Int)) && (goodN s.name && (decide (s.rw ≥ 0) && (decide (s.rw ≤ N.rw) && (decide (s.rf ≥ 0) && (decide (s.rf ≤ N.rf) && (decide (s.fin ≥ 0) && decide (s.fin ≤ 9))))))))
structure GoodSt (N : NetL) (s : StateL) : Prop where
 s0 : 0 ≤ s.sv
 s1 : s.sv < (N.hosts.length : Int)
 nm : goodN s.name = true
 w0 : 0 ≤ s.rw
 w1 : s.rw ≤ N.rw
 f0 : 0 ≤ s.rf
 f1 : s.rf ≤ N.rf
 e0 : 0 ≤ s.fin
 e1 : s.fin ≤ 9
theorem goodS_iff {N : NetL} {s : StateL} : goodS N s = true ↔ GoodSt N s := by
 unfold goodS
 simp only [Bool.and_eq_true, decide_eq_true_eq]
 exact ⟨fun ⟨a, b, c, d, e, f, g, h, i⟩ => ⟨a, b, c, d, e, f, g, h, i⟩, fun h => ⟨h.s0, h.s1, h.nm, h.w0, h.w1, h.f0, h.f1, h.e0, h.e1⟩⟩
set_option maxHeartbeats 2000000 in
theorem good20_ok {w0 w : World} (hE0 : Ext w0 w) {cs sc : List Value} {N : NetL} {s : StateL} (hN : NetAt w0 cs N) (hs : StC w sc s) :
  Fn Tryz.prog 33 #[.agg cs.toArray, .agg sc.toArray] w (fun v w' => v = .bool (goodS N s) ∧ Ext w w') := by
 obtain ⟨hv, rv, rfl, hh, hro⟩ := hN.ex
 obtain ⟨nv, rfl, hr⟩ := hs.ex
 obtain ⟨ah, ch, rfl, _⟩ := hh.open
 obtain ⟨ar, cr, rfl, _⟩ := hro
 obtain ⟨an, cn, hnv, _⟩ := id hr
 unfold stV
 refine enter Tryz.func33 Tryz.ntmps33 rfl rfl ?_
 repeat refine c_r ?_
 rw [hnv]
 refine rg0 ?_
 rw [← hnv]
 repeat refine c_r ?_
 rw [new_size]
 refine W_alloc2 ?_
 intro w1 hE1 hs1 hA hB
 have h0 : cellO w1 (some ⟨w.heap.size, 0, Option.none⟩) = some (.slice ah N.hosts.length ch) := cellO_at hA rfl
 have n2 : cellO w1 (some ⟨w.heap.size, 2, Option.none⟩) = some (vi N.rw) := cellO_at hA rfl
 have n3 : cellO w1 (some ⟨w.heap.size, 3, Option.none⟩) = some (vi N.rf) := cellO_at hA rfl
 have a0 : cellO w1 (some ⟨w.heap.size + 1, 0, Option.none⟩) = some (vi s.sv) := cellO_at hB rfl
 have a1 : cellO w1 (some ⟨w.heap.size + 1, 1, Option.none⟩) = some nv := cellO_at hB rfl
 have a2 : cellO w1 (some ⟨w.heap.size + 1, 2, Option.none⟩) = some (vi s.rw) := cellO_at hB rfl
 have a3 : cellO w1 (some ⟨w.heap.size + 1, 3, Option.none⟩) = some (vi s.rf) := cellO_at hB rfl
 have a5 : cellO w1 (some ⟨w.heap.size + 1, 5, Option.none⟩) = some (vi s.fin) := cellO_at hB rfl
 unfold goodS
 obtain ⟨x0, k0⟩ : ∃ x, decide (s.sv ≥ 0) = x := ⟨_, rfl⟩
 obtain ⟨x1, k1⟩ : ∃ x, decide (s.sv < (N.hosts.length : Int)) = x := ⟨_, rfl⟩
 obtain ⟨x3, k3⟩ : ∃ x, decide (s.rw ≥ 0) = x := ⟨_, rfl⟩
 obtain ⟨x4, k4⟩ : ∃ x, decide (s.rw ≤ N.rw) = x := ⟨_, rfl⟩
 obtain ⟨x5, k5⟩ : ∃ x, decide (s.rf ≥ 0) = x := ⟨_, rfl⟩
 obtain ⟨x6, k6⟩ : ∃ x, decide (s.rf ≤ N.rf) = x := ⟨_, rfl⟩
 obtain ⟨x7, k7⟩ : ∃ x, decide (s.fin ≥ 0) = x := ⟨_, rfl⟩
 obtain ⟨x8, k8⟩ : ∃ x, decide (s.fin ≤ 9) = x := ⟨_, rfl⟩
 rw [k0, k1, k3, k4, k5, k6, k7, k8]
 repeat refine c_r ?_
 refine W_mono (Q := fun e σ' ds' v' => e = .normal ∧ ds' = [] ∧ Ext w1 v' ∧ σ' 4 = .bool (x0 && (x1 && (goodN s.name && (x3 && (x4 && (x5 && (x6 && (x7 && x8))))))))) ?_ ?_
 ·cases x0
  ·refine rgg [(3, 8), (11, 16), (16, 21), (21, 26), (28, 33), (33, 38), (40, 45), (45, 50)] (an3 a0 k0 Nat.add_zero) ?_
   exact ⟨rfl, rfl, Keep.refl _ _, vr0⟩
  cases x1
  ·refine rgg [(3, 8), (11, 16), (16, 21), (21, 26), (28, 33), (33, 38), (40, 45), (45, 50)] (an5 a0 k0 Nat.add_zero h0 k1) ?_
   exact ⟨rfl, rfl, Keep.refl _ _, vr0⟩
  refine rcg [(3, 8), (11, 16), (16, 21), (21, 26), (28, 33), (33, 38), (40, 45), (45, 50)] (an7 a0 k0 Nat.add_zero h0 k1 a1 Nat.zero_add) (NGood_ok w1 nv s.name (hr.ext hE1)) ?_
  rintro _ w2 ⟨rfl, hE2⟩
  have b2 := cellO_ext hE2 a2
  have b3 := cellO_ext hE2 a3
  have b5 := cellO_ext hE2 a5
  have m2 := cellO_ext hE2 n2
  have m3 := cellO_ext hE2 n3
  cases goodN s.name
  ·refine reg [(3, 8), (11, 16), (16, 21), (21, 26), (28, 33), (33, 38), (40, 45), (45, 50)] trivial ?_
   exact ⟨rfl, rfl, hE2, vr0⟩
  cases x3
  ·refine reg [(3, 8), (11, 16), (16, 21), (21, 26), (28, 33), (33, 38), (40, 45), (45, 50)] (an3 b2 k3 Nat.zero_add) ?_
   exact ⟨rfl, rfl, hE2, vr0⟩
  cases x4
  ·refine reg [(3, 8), (11, 16), (16, 21), (21, 26), (28, 33), (33, 38), (40, 45), (45, 50)] (an5 b2 k3 Nat.zero_add m2 k4) ?_
   exact ⟨rfl, rfl, hE2, vr0⟩
  cases x5
  ·refine reg [(3, 8), (11, 16), (16, 21), (21, 26), (28, 33), (33, 38), (40, 45), (45, 50)] (an7 b2 k3 Nat.zero_add m2 k4 b3 k5) ?_
   exact ⟨rfl, rfl, hE2, vr0⟩
  cases x6
  ·refine reg [(3, 8), (11, 16), (16, 21), (21, 26), (28, 33), (33, 38), (40, 45), (45, 50)] (an3 (an7 b2 k3 Nat.zero_add m2 k4 b3 k5) m3 k6) ?_
   exact ⟨rfl, rfl, hE2, vr0⟩
  cases x7
  ·refine reg [(3, 8), (11, 16), (16, 21), (21, 26), (28, 33), (33, 38), (40, 45), (45, 50)] (an5 (an7 b2 k3 Nat.zero_add m2 k4 b3 k5) m3 k6 b5 k7) ?_
   exact ⟨rfl, rfl, hE2, vr0⟩
  cases x8
  ·refine reg [(3, 8), (11, 16), (16, 21), (21, 26), (28, 33), (33, 38), (40, 45), (45, 50)] (an6 (an7 b2 k3 Nat.zero_add m2 k4 b3 k5) m3 k6 b5 k7 k8) ?_
   exact ⟨rfl, rfl, hE2, vr0⟩
  refine reg [(3, 8), (11, 16), (16, 21), (21, 26), (28, 33), (33, 38), (40, 45), (45, 50)] (an6 (an7 b2 k3 Nat.zero_add m2 k4 b3 k5) m3 k6 b5 k7 k8) ?_
  exact ⟨rfl, rfl, hE2, vr0⟩
 rintro _ σ1 _ w5 ⟨rfl, rfl, hE5, h4⟩
 repeat refine c_r ?_
 refine rt1 h4 Tryz.ntmps33 ?_
 exact ⟨rfl, hE1.trans hE5⟩
theorem sum_two : ∀ {n : Nm}, (∀ l ∈ n, l ≠ []) → 2 * n.length ≤ (n.map fun l => 1 + l.length).sum
 | [], _ => by simp
 | l :: n, h => by
  have h1 := List.length_pos_iff.2 (h l (List.mem_cons_self ..))
  have h2 := sum_two (n := n) fun m hm => h m (List.mem_cons_of_mem _ hm)
  rw [List.map_cons, List.sum_cons, List.length_cons]; omega
theorem check_short {n : Nm} (h : checkN n = 0) : n.length ≤ 127 := by
 have hl := checkN_labels h
 have h2 := sum_two fun l hm => (hl l hm).1
 unfold checkN at h
 cases hf : n.find? (fun l => decide (errL l ≠ 0)) with
 | some x =>
  rw [hf] at h
  have h1 := List.find?_some hf
  simp at h1
  exact absurd h h1
 | none =>
  rw [hf] at h
  dsimp only at h
  split at h
  ·cases h
  ·rename_i h3
   unfold lenN at h3
   omega
theorem good_check {n : Nm} (h : checkN n = 0) : goodN n = true := by
 unfold goodN
 rw [Bool.and_eq_true, decide_eq_true_eq]
 refine ⟨?_, h⟩
 have h1 := checkN_labels h
 have h2 := check_short h
 unfold few
 simp only [Bool.and_eq_true, decide_eq_true_eq, List.all_eq_true]
 refine ⟨by omega, fun l hl => by have := (h1 l hl).2; omega⟩
theorem GoodSt.b {N : NetL} {s : StateL} (h : GoodSt N s) (hN : GoodNet N) : StB s := ⟨(goodN_g h.nm).m, h.w0, by have := h.w1; have := hN.w.2; omega, h.f0, by have := h.f1; have := hN.f.2; omega⟩
structure NextF (N : NetL) (s x : StateL) : Prop where
 g : GoodSt N x
 w : s.rw ≤ x.rw
 f : s.rf ≤ x.rf
 m1 : x.rw - s.rw + x.rf - s.rf ≤ 1
 go : x.fin = 0 → x.rw - s.rw + x.rf - s.rf = 1
theorem ends_F {N : NetL} {s s0 x : StateL} {k : Int} (hs : GoodSt N s) (hk : 1 ≤ k ∧ k ≤ 9) (hw : s0.rw = s.rw) (hf : s0.rf ≤ s.rf ∧ s.rf ≤ s0.rf + 1) (hx : x ∈ endS s k) : NextF N s0 x := by
 rw [List.mem_singleton.1 hx]
 exact ⟨⟨hs.s0, hs.s1, hs.nm, hs.w0, hs.w1, hs.f0, hs.f1, by dsimp only; omega, hk.2⟩, by dsimp only; omega, by dsimp only; omega, by dsimp only; omega, fun h => by dsimp only at h; omega⟩
theorem pickI_in {α : Type} {p : α → Bool} : ∀ {l : List α} {i : Nat} {k : Int}, k ∈ pickI p i l → (i : Int) ≤ k ∧ k < (i : Int) + (l.length : Int)
 | [], i, k, h => by cases h
 | a :: l, i, k, h => by
  unfold pickI at h
  rcases List.mem_append.1 h with h | h
  ·split at h
   ·rw [List.mem_singleton.1 h, List.length_cons]; omega
   ·cases h
  ·have := pickI_in h
   rw [List.length_cons]; omega
theorem aliasS_F {N : NetL} {s x : StateL} {to : Nm} (hN : GoodNet N) (hs : GoodSt N s) (h0 : s.fin = 0) (ht : checkN to = 0) (hx : x ∈ aliasS N s to) : NextF N s x := by
 unfold aliasS at hx
 split at hx
 ·exact ends_F hs (by omega) rfl (by omega) hx
 rename_i hw
 have hw' : s.rw < N.rw := by omega
 have g : ∀ k : Int, 0 ≤ k → k < (N.hosts.length : Int) → NextF N s { s with rw := s.rw + 1, name := to, ref := false, sv := k } := fun k h1 h2 =>
  ⟨⟨h1, h2, good_check ht, by have := hs.w0; dsimp only; omega, by dsimp only; omega, hs.f0, hs.f1, hs.e0, hs.e1⟩, by dsimp only; omega, by dsimp only; omega, by dsimp only; omega, fun _ => by dsimp only; omega⟩
 split at hx
 ·rw [List.mem_singleton.1 hx]
  exact g s.sv hs.s0 hs.s1
 ·unfold rootsS at hx
  obtain ⟨k, hk, rfl⟩ := List.mem_map.1 hx
  have := hN.rin k hk
  exact g k this.1 this.2
theorem referS_F {N : NetL} {s x : StateL} {r : ResL} (hs : GoodSt N s) (h0 : s.fin = 0) (hx : x ∈ referS N s r) : NextF N s x := by
 unfold referS at hx
 split at hx
 ·exact ends_F hs (by omega) rfl (by omega) hx
 rename_i hw
 have hf0 := hs.f0
 have hs2 : GoodSt N { s with rf := s.rf + 1 } := ⟨hs.s0, hs.s1, hs.nm, hs.w0, hs.w1, by dsimp only; omega, by dsimp only; omega, hs.e0, hs.e1⟩
 obtain ⟨h, _, hx⟩ := List.mem_flatMap.1 hx
 unfold hostS at hx
 rcases List.mem_append.1 hx with hx | hx
 ·split at hx
  ·exact ends_F hs2 (by omega) rfl (by dsimp only; omega) hx
  ·cases hx
 ·obtain ⟨k, hk, rfl⟩ := List.mem_map.1 hx
  unfold ofR meantL at hk
  have := pickI_in hk
  exact ⟨⟨by dsimp only; omega, by dsimp only; omega, hs.nm, hs.w0, hs.w1, by dsimp only; omega, by dsimp only; omega, hs.e0, hs.e1⟩, by dsimp only; omega, by dsimp only; omega, by dsimp only; omega, fun _ => by dsimp only; omega⟩
theorem next_F {N : NetL} {s x : StateL} {t : Int} (hN : GoodNet N) (hs : GoodSt N s) (hx : x ∈ nextS N s t) : s.fin = 0 ∧ NextF N s x := by
 have hF := ask_F (s := s.sv) (t := t) hN.z (goodN_g hs.nm).m
 unfold nextS at hx
 split at hx
 ·rename_i h0
  refine ⟨h0, ?_⟩
  repeat first | (split at hx; (first | exact ends_F hs (by omega) rfl (by omega) hx | exact aliasS_F hN hs h0 (hF.nm (by assumption)) hx | exact referS_F hs h0 hx)) | exact ends_F hs (by omega) rfl (by omega) hx
 ·cases hx
theorem targetsL_len {u : Int} {ds : List DatL} : (targetsL u ds).length ≤ ds.length := by
 unfold targetsL
 split
 ·exact List.length_filterMap_le _ _
 ·simp
theorem next_len {N : NetL} {s : StateL} {t : Int} (hN : NetZ N) (ms : NmM s.name) : (nextS N s t).length ≤ 2000000 := by
 have hF := ask_F (s := s.sv) (t := t) hN ms
 have he : ∀ k : Int, (endS s k).length ≤ 2000000 := fun k => by unfold endS; simp
 have h1 := hN.rl
 have h2 := hN.hl
 unfold nextS
 split
 ·repeat (split; · exact he _)
  split
  ·unfold aliasS
   split
   ·exact he _
   split
   ·simp
   ·unfold rootsS; rw [List.length_map]; omega
  split
  ·unfold referS
   split
   ·exact he _
   ·have h3 := flat_len (fun a => hostS_len (N := N) (r := askN N s.sv s.name t) (s := { s with rf := s.rf + 1 }) (h := a)) (targetsL 2 (askN N s.sv s.name t).data)
    have h4 := targetsL_len (u := 2) (ds := (askN N s.sv s.name t).data)
    have h5 := hF.dl
    have h6 : (targetsL 2 (askN N s.sv s.name t).data).length * (N.hosts.length + 1) ≤ 1000 * 1001 := Nat.mul_le_mul (by omega) (by omega)
    omega
  split <;> exact he _
 ·simp
theorem best_foldN {q q' : Nm} (h : ∀ o, under q o = under q' o) : bestStep q = bestStep q' := by
 funext b x
 unfold bestStep
 rw [h]
theorem bestN_eq {N : NetL} {s : Int} {q q' : Nm} (h : ∀ o, under q o = under q' o) : bestN N s q = bestN N s q' := by
 unfold bestN bestZ
 rw [best_foldN h]
theorem under_of_fold {q q' : Nm} (h : foldN q = foldN q') (o : Nm) : under q o = under q' o := by
 rw [← under_fold_l (q := q), ← under_fold_l (q := q'), h]
theorem ask_fold {N : NetL} {s : Int} {q : Nm} {t : Int} : Alk (askN N s q t) (askN N s (foldN q) t) := by
 unfold askN
 rw [bestN_eq (q := foldN q) (q' := q) (fun o => under_fold_l)]
 split
 ·cases (N.zones s)[(bestN N s q).1.toNat]? with
  | none => exact Alk.self _
  | some z => exact look_fold
 ·exact Alk.self _
def AlS (a b : StateL) : Prop := ∃ n, b = { a with name := n } ∧ foldN n = foldN a.name
theorem AlS.same {a b : StateL} (h : AlS a b) : sameS a b = true := by
 obtain ⟨n, rfl, hn⟩ := h
 unfold sameS
 simp [hn]
inductive AllS : List StateL → List StateL → Prop
 | nil : AllS [] []
 | cons {a b : StateL} {l m : List StateL} (h : AlS a b) (t : AllS l m) : AllS (a :: l) (b :: m)
theorem AllS.app {l m l' m' : List StateL} (h : AllS l m) (k : AllS l' m') : AllS (l ++ l') (m ++ m') := by
 induction h with
 | nil => exact k
 | cons h _ ih => exact .cons h ih
theorem AllS.len {l m : List StateL} (h : AllS l m) : l.length = m.length := by
 induction h with
 | nil => rfl
 | cons _ _ ih => simp [ih]
theorem AllS.get {l m : List StateL} (h : AllS l m) : ∀ {i : Nat} (h1 : i < l.length) (h2 : i < m.length), AlS l[i] m[i] := by
 induction h with
 | nil => intro i h1; simp at h1
 | cons h _ ih =>
  intro i h1 h2
  cases i with
  | zero => exact h
  | succ i => exact ih (by simpa using h1) (by simpa using h2)
theorem AllS.maps {α : Type} {f g : α → StateL} (h : ∀ a, AlS (f a) (g a)) : ∀ l : List α, AllS (l.map f) (l.map g)
 | [] => .nil
 | a :: l => .cons (h a) (AllS.maps h l)
theorem AllS.flat {α : Type} {f g : α → List StateL} (h : ∀ a, AllS (f a) (g a)) : ∀ l : List α, AllS (l.flatMap f) (l.flatMap g)
 | [] => .nil
 | a :: l => by
  rw [List.flatMap_cons, List.flatMap_cons]
  exact (h a).app (AllS.flat h l)
theorem ends_fold {a b : StateL} (h : AlS a b) (k : Int) : AllS (endS a k) (endS b k) := by
 obtain ⟨n, rfl, hn⟩ := h
 exact .cons ⟨n, rfl, hn⟩ .nil
theorem roots_fold {N : NetL} {a b : StateL} (h : AlS a b) : AllS (rootsS N a) (rootsS N b) := by
 obtain ⟨n, rfl, hn⟩ := h
 exact AllS.maps (f := fun k => { a with sv := k }) (g := fun k => { a with sv := k, name := n }) (fun k => ⟨n, rfl, hn⟩) N.roots
theorem alias_fold {N : NetL} {a b : StateL} {to to' : Nm} (h : AlS a b) (ht : foldN to' = foldN to) : AllS (aliasS N a to) (aliasS N b to') := by
 obtain ⟨n, rfl, hn⟩ := h
 unfold aliasS
 dsimp only
 split
 ·exact ends_fold ⟨n, rfl, hn⟩ 7
 ·rw [bestN_eq (under_of_fold ht)]
  have h2 : AlS { a with rw := a.rw + 1, name := to, ref := false } { a with rw := a.rw + 1, name := to', ref := false } := ⟨to', rfl, ht⟩
  split
  ·exact .cons h2 .nil
  ·exact roots_fold h2
theorem host_fold {N : NetL} {a b : StateL} {r r' : ResL} (h : AlS a b) (hr : Alk r r') (x : Nm) : AllS (hostS N r a x) (hostS N r' b x) := by
 obtain ⟨n, rfl, hn⟩ := h
 obtain ⟨m, rfl, _⟩ := hr
 unfold hostS
 refine AllS.app ?_ (AllS.maps (f := fun k => { a with sv := k, ref := true }) (g := fun k => { a with sv := k, ref := true, name := n }) (fun k => ⟨n, rfl, hn⟩) (ofR N r x))
 show AllS (if ((ofR N r x).length : Int) = 0 then _ else _) (if ((ofR N r x).length : Int) = 0 then _ else _)
 split
 ·exact ends_fold ⟨n, rfl, hn⟩ 9
 ·exact .nil
theorem refer_foldS {N : NetL} {a b : StateL} {r r' : ResL} (h : AlS a b) (hr : Alk r r') : AllS (referS N a r) (referS N b r') := by
 obtain ⟨n, rfl, hn⟩ := h
 unfold referS
 dsimp only
 split
 ·exact ends_fold ⟨n, rfl, hn⟩ 8
 ·have hd : r'.data = r.data := by
   obtain ⟨m, rfl, _⟩ := hr; rfl
  rw [hd]
  exact AllS.flat (fun x => host_fold (N := N) (a := { a with rf := a.rf + 1 }) (b := { a with rf := a.rf + 1, name := n }) ⟨n, rfl, hn⟩ hr x) _
theorem next_fold {N : NetL} {s : StateL} {t : Int} : AllS (nextS N s t) (nextS N { s with name := foldN s.name } t) := by
 have hs : AlS s { s with name := foldN s.name } := ⟨_, rfl, foldN_two _⟩
 have ha : Alk (askN N s.sv s.name t) (askN N s.sv (foldN s.name) t) := ask_fold
 obtain ⟨a, hae⟩ : ∃ a, askN N s.sv s.name t = a := ⟨_, rfl⟩
 obtain ⟨b, hbe⟩ : ∃ b, askN N s.sv (foldN s.name) t = b := ⟨_, rfl⟩
 rw [hae, hbe] at ha
 have hk := ha.kind
 have hn : foldN b.name = foldN a.name := by
  obtain ⟨m, rfl, hm⟩ := ha; exact hm
 unfold nextS
 dsimp only
 rw [hae, hbe, hk]
 split
 ·repeat (split; · exact ends_fold hs _)
  split
  ·exact alias_fold hs hn
  split
  ·exact refer_foldS hs ha
  split <;> exact ends_fold hs _
 ·exact .nil
theorem good_fold {n : Nm} (h : goodN n = true) : goodN (foldN n) = true := by
 refine good_check ?_
 unfold goodN at h
 simp only [Bool.and_eq_true, decide_eq_true_eq] at h
 rw [← h.2]
 refine checkN_len_eq ?_
 unfold LenN foldN
 rw [List.map_map]
 exact List.map_congr_left fun l _ => foldL_length l
theorem StC.ext {w x : World} {cs : List Value} {s : StateL} (h : StC w cs s) (hE : Ext w x) : StC x cs s := by
 obtain ⟨nv, e, h1⟩ := h.ex
 exact ⟨nv, e, h1.ext hE⟩
def Known20 : Prop := ∀ w : World, Fn Tryz.prog 31 #[] w (fun v w' => v = .bool true ∧ Ext w w')
end Go.Proofs.YtopbbjdembnfdaaGreat
namespace Go.Proofs.YtopbbjdembnfdaaGreat
open Go Go.ChangeShapes Go.WideShapes Go.ChangeAt Go.RowKit Go.WideElems
theorem Ext.below {w x : World} (h : Ext w x) : RowKit.Below w.heap.size w x := ⟨h.os, h.tape, h.output, h.size, fun k hk => h.block k hk (fun h => h)⟩
theorem Ext.kept {w x : World} (h : Ext w x) (may : MemPlace → Prop) : w.keptBut x may := by
 refine ⟨h.os, h.output, fun i hi => ?_⟩
 rw [h.block i hi (fun h => h)]
 cases hw : w.heap[i]? with
 | none => trivial
 | some o => cases o <;> simp
theorem trodAll_stays {H : Type} {enc : TypeId × Value → H} {P : Program} (hl : laidOutB P = true) {W W' : World} {sp : Nat → Bool} (hE : Ext W W') :
  ∀ {ts : List TypeId} {vs : List Value} {ds : List (DataW H)} {ps : List MemPlace}, (∀ t ∈ ts, P.readableRec t = true ∧ t < P.types.size) → DataW.TrodAll enc P W 0 (fun _ => true) true ts vs ds ps → (∀ x ∈ ps, x.block < W.heap.size) → (∀ x ∈ ps, sp x.block = true) →
   DataW.TrodAll enc P W' 0 sp true ts vs ds ps
 | [], _, _, _, _, h, _, _ => by
  obtain ⟨rfl, rfl, rfl⟩ := trodAll_nil h
  exact trodAll_mk0
 | _ :: _, _, _, _, ht, h, hlt, hs => by
  obtain ⟨v, vs1, d, ds1, a, b, rfl, rfl, rfl, h1, h2⟩ := trodAll_cons h
  obtain ⟨hr, hrow⟩ := ht _ (List.mem_cons_self ..)
  exact trodAll_cons_mk (WideElems.Trod_stays hl hr hrow h1 (fun x hx => hE.below.same (hlt x (List.mem_append_left _ hx))) (fun x hx => hs x (List.mem_append_left _ hx)))
   (trodAll_stays hl hE (fun t h => ht t (List.mem_cons_of_mem _ h)) h2 (fun x hx => hlt x (List.mem_append_right _ hx)) (fun x hx => hs x (List.mem_append_right _ hx)))
theorem frozen_ext {w x : World} (h : Ext w x) {b : Nat} (hb : b < w.heap.size) (o : Nat) : x.frozen? ⟨b, o, Option.none⟩ = w.frozen? ⟨b, o, Option.none⟩ := by
 unfold World.frozen?
 rw [h.block b hb (fun h => h)]
theorem law_post {H : Type} {enc : TypeId × Value → H} {P : Program} {f : Func} {s : ChangeSpec} {apart fresh handsOn again : Bool} {W W' : World} {args : Array Value} {ds gs : List (DataW H)} {before : List MemPlace}
  (hW : DataW.Whole enc P f.params.toList s.vars apart W args.toList ds gs before) (hvn : s.vars = []) (hspec : s.fn H ds = { results := [.lit (.bool true)], args := ds }) {tb : TypeId} (hrt : f.resultTypes = #[tb]) (htb : P.underlying tb = some .bool)
  (hl : laidOutB P = true) (hrd : ∀ t ∈ f.params.toList, P.readableRec t = true ∧ t < P.types.size) (hE : Ext W W') : s.post enc P f apart fresh handsOn again W args (.bool true) W' := by
 have hlt := hW.lt
 have hW0 := hW
 obtain ⟨p, q, hA, hV, hpq, hfz, hnd⟩ := hW
 have hq : gs = [] ∧ q = [] := by
  rw [hvn] at hV
  cases gs with
  | nil => exact ⟨rfl, hV⟩
  | cons _ _ => exact hV.elim
 obtain ⟨rfl, rfl⟩ := hq
 rw [List.append_nil] at hpq
 subst hpq
 have hres : ∀ (b : Nat) (sp : Nat → Bool) (hd : Bool), DataW.TrodAll enc P W' b sp hd f.resultTypes.toList ((Value.bool true).resultList f.resultTypes.size) (s.fn H (ds ++ [])).results [] := fun b sp hd => by
  rw [List.append_nil, hspec, hrt]
  exact trodAll_mk1 (shut_bool htb true)
 have hargs : ∀ sp : Nat → Bool, (∀ x ∈ before, sp x.block = true) → DataW.TrodAll enc P W' 0 sp true f.params.toList args.toList (s.fn H (ds ++ [])).args before := fun sp hs => by
  rw [List.append_nil, hspec]
  exact trodAll_stays hl hE hrd hA hlt hs
 have hvars : ∀ sp : Nat → Bool, DataW.TrodVars enc P W' sp s.vars (s.fn H (ds ++ [])).vars [] := fun sp => by
  rw [List.append_nil, hspec, hvn]; rfl
 have hold : ∀ x ∈ before, (fun b => decide (b < W.heap.size)) x.block = true := fun x hx => by simpa using hlt x hx
 refine ⟨ds, [], before, [], before, [], hW0, hres _ _ _, hargs _ hold, hvars _, hE.kept _, fun _ => ?_⟩
 refine ⟨fun j t r h1 h2 => ?_, _, _, ([] ++ before) ++ [], ⟨[] ++ before, [], trodAll_append (hargs _ (fun _ _ => rfl)) (hres _ _ _), hvars _, rfl, ?_, ?_⟩, ?_⟩
 ·rw [hrt] at h1 h2
  match j with
  | 0 =>
   simp at h1
   subst h1
   have : r = .bool true := by simpa [Value.resultList] using h2.symm
   subst this
   exact okWide_bool_mk htb true
  | j + 1 => simp at h1
 ·intro b off hp
  have hp' : MemPlace.cell b off ∈ before := by simpa using hp
  rw [frozen_ext hE (show b < W.heap.size from hlt _ hp')]
  exact hfz b off hp'
 ·intro ha
  simpa using hnd ha
 ·intro x hx _
  simpa using hx
theorem law_lift {C : Checked} {os : Os} {f : FuncId} {fn : Func} {s : ChangeSpec} {conds : List PathCond} {apart fresh handsOn again : Bool} {H : Type} {enc : TypeId × Value → H}
  (own : ownKnob C.prog.godebug = none) (started : os.Started) (noInit : C.prog.inits.idxOf? f = none) (hfn : C.prog.funcs[f]? = some fn)
  (witness : ∃ (w : World) (tape : Tape) (i : Input), w.os = os ∧ (w.forCall tape i).Shaped C.prog ∧ i.vars = [] ∧ Input.okWide C.prog (w.forCall tape i) .any w.heap.size f i ∧
   s.pre6 enc C.prog fn conds apart (w.forCall tape i).memory i.args ∧ ({} : Assume).holds C.prog (lone (Frame.enter C.prog f i.args .normal) [] (w.forCall tape i)))
  (hvn : s.vars = []) (hspec : ∀ ds : List (DataW H), ds.length = fn.params.size → s.fn H ds = { results := [.lit (.bool true)], args := ds }) {tb : TypeId} (hrt : fn.resultTypes = #[tb]) (htb : C.prog.underlying tb = some .bool)
  (hl : laidOutB C.prog = true) (hrd : fn.params.toList.all (fun t => C.prog.readableRec t && decide (t < C.prog.types.size)) = true)
  (walk : ∀ (W : World) (base : Nat) (args : List Value) (ds : List (DataW H)) (p : List MemPlace), (∀ (j : Nat) t v, fn.params[j]? = some t → args[j]? = some v → Value.okWide C.prog W .any base t v) →
   DataW.TrodAll enc C.prog W 0 (fun _ => true) true fn.params.toList args ds p → (∀ x ∈ DataW.weightsEach C.prog fn.params.toList ds, x ≤ reachBytes) → Fn C.prog f args.toArray W (fun v W' => v = .bool true ∧ Ext W W')) :
  ReturnsInHanded {} C os f .any (s.pre6 enc C.prog fn conds apart) (s.post enc C.prog fn apart fresh handsOn again) := by
 refine returnsInHanded_of_change_sized own started noInit hfn witness ?_
 intro W base args ds gs before hval hW _ hwt _
 have hW0 := hW
 obtain ⟨p, q, hA, hV, _⟩ := hW
 have hgs : gs = [] := by
  rw [hvn] at hV
  cases gs with
  | nil => rfl
  | cons _ _ => exact hV.elim
 subst hgs
 have hvt : s.plain.varTypes C.prog = [] := by
  unfold DataSpec.varTypes
  rw [show s.plain.vars = [] from hvn]; rfl
 rw [hvt, List.append_nil, List.append_nil] at hwt
 have hlen : ∀ {ts : List TypeId} {vs : List Value} {ds : List (DataW H)} {ps : List MemPlace}, DataW.TrodAll enc C.prog W 0 (fun _ => true) true ts vs ds ps → ds.length = ts.length := by
  intro ts
  induction ts with
  | nil => intro vs ds ps h; obtain ⟨rfl, rfl, rfl⟩ := trodAll_nil h; rfl
  | cons t ts ih =>
   intro vs ds ps h
   obtain ⟨v, vs1, d, ds1, a, b, rfl, rfl, rfl, h1, h2⟩ := trodAll_cons h
   simp [ih h2]
 have hw := walk W base args.toList ds p (fun j t v h1 h2 => hval j t v h1 (by simpa using h2)) hA (fun x hx => by simpa using (List.all_eq_true.1 hwt) x hx)
 rw [Array.toArray_toList] at hw
 refine Calls.mono (callsIn_wide.1 hw) ?_
 rintro e W' ⟨v, rfl, rfl, hE⟩
 refine ⟨_, rfl, law_post hW0 hvn (hspec ds (by rw [hlen hA]; simp)) hrt htb hl (fun t ht => ?_) hE⟩
 have := (List.all_eq_true.1 hrd) t ht
 simpa using this
/-! arguments -/
section
variable {H : Type} {enc : TypeId × Value → H} {P : Program} {w : World} {base : Nat} {sp : Nat → Bool} {held : Bool}
def Rd (enc : TypeId × Value → H) (P : Program) (w : World) (base : Nat) (sp : Nat → Bool) (held : Bool) (t : TypeId) (v : Value) : Prop := ∃ n x, DataW.trod enc P w base sp held n t [v] = some x ∧ ∀ k ∈ x.1.weights P t, k ≤ reachBytes
theorem weightsAll_in {e : TypeId} {d : DataW H} {k : Nat} : ∀ {l : List (DataW H)}, d ∈ l → k ∈ d.weights P e → k ∈ DataW.weightsAll P e l
 | a :: l, hd, hk => by
  simp only [DataW.weightsAll, List.mem_append]
  rcases List.mem_cons.1 hd with rfl | hd
  ·exact .inl hk
  ·exact .inr (weightsAll_in hd hk)
theorem rd_slice {t e : TypeId} {v : Value} (h : Rd enc P w base sp held t v) (ht : P.underlying t = some (.slice e)) (hc : P.cellsOf e = 1) :
  ∃ vals, Row w v vals ∧ (∀ u ∈ vals, Rd enc P w base sp held e u) ∧ vals.length * P.bytesOf e ≤ reachBytes := by
 obtain ⟨n, x, h, hw⟩ := h
 rcases Go.Deep.open_slice1 ht hc h with ⟨h1, _⟩ | ⟨a, len, cap, m, k, V, D, Pl, h1, _, hl, hm, hmm, rfl, hx⟩
 ·simp only [List.cons.injEq, and_true] at h1
  subst h1
  exact ⟨[], ⟨Option.none, 0, rfl, Nat.le_refl _, fun j h => by simp at h⟩, fun u h => (by cases h), by simp⟩
 ·simp only [List.cons.injEq, and_true] at h1
  subst h1
  have hml : len ≤ m := by rw [hmm]; split <;> omega
  simp only [DataW.weights, ht] at hw
  refine ⟨(List.range len).map V, ⟨some a, cap, by simp, by simpa using hl, fun j hj => ?_⟩, fun u hu => ?_, ?_⟩
  ·simp at hj
   have := (hx j (by omega)).1
   simpa [cellO, adr] using this
  ·obtain ⟨j, hj, rfl⟩ := List.mem_map.1 hu
   simp at hj
   refine ⟨_, _, (hx j (by omega)).2, fun q hq => hw q (List.mem_cons_of_mem _ (List.mem_append_left _ (weightsAll_in (d := D j) ?_ hq)))⟩
   exact List.mem_map.2 ⟨j, by simpa using hj, rfl⟩
  ·have h1 := hw _ (List.mem_cons_self ..)
   have h2 : ((List.range len).map V).length * P.bytesOf e ≤ (((List.range len).map D).length + ((List.range (m - len)).map fun j => D (len + j)).length) * P.bytesOf e := Nat.mul_le_mul (by simp) (Nat.le_refl _)
   omega
theorem rd_string {t : TypeId} {v : Value} (h : Rd enc P w base sp held t v) (ht : P.underlying t = some .string) : ∃ s : List UInt8, v = vs s ∧ s.length ≤ reachBytes := by
 obtain ⟨n, x, h, hw⟩ := h
 cases n with
 | zero => cases h
 | succ n =>
  unfold DataW.trod at h
  rw [ht] at h
  cases v <;> simp at h
  rename_i s
  obtain ⟨_, rfl⟩ := h
  exact ⟨s.data.toList, by simp [vs], by simpa [DataW.weights, ByteArray.toList_eq] using hw⟩
theorem list_of {α β : Type} {f : α → β} {Q : α → Prop} : ∀ {l : List β}, (∀ u ∈ l, ∃ s, u = f s ∧ Q s) → ∃ m : List α, l = m.map f ∧ ∀ s ∈ m, Q s
 | [], _ => ⟨[], rfl, fun s h => by cases h⟩
 | b :: l, h => by
  obtain ⟨s, rfl, hq⟩ := h b (List.mem_cons_self ..)
  obtain ⟨m, rfl, hm⟩ := list_of (fun u hu => h u (List.mem_cons_of_mem _ hu))
  refine ⟨s :: m, rfl, fun x hx => ?_⟩
  rcases List.mem_cons.1 hx with rfl | hx
  ·exact hq
  ·exact hm x hx
end
end Go.Proofs.YtopbbjdembnfdaaGreat
namespace Go.Proofs.YtopbbjdembnfdaaGreat
open Go
section
variable {H : Type} {enc : TypeId × Value → H} {P : Program} {w : World} {base : Nat} {sp : Nat → Bool} {held : Bool}
structure NmOk (n : Nm) : Prop where
 lb : LB n
 len : n.length ≤ 100000000000000
theorem reach_lt : reachBytes < 140737488355328 := by decide
theorem rd_name {t e : TypeId} {v : Value} (h : Rd enc P w base sp held t v) (ht : P.underlying t = some (.slice e)) (hc : P.cellsOf e = 1) (he : P.underlying e = some .string) (hb : P.bytesOf e = 16) : ∃ n : Nm, Row w v (n.map vs) ∧ NmOk n := by
 obtain ⟨vals, hr, hall, hl⟩ := rd_slice h ht hc
 obtain ⟨m, rfl, hm⟩ := list_of (f := vs) (fun u hu => rd_string (hall u hu) he)
 have := reach_lt
 rw [hb] at hl
 exact ⟨m, hr, fun l hl => by have := hm l hl; omega, by simp at hl; omega⟩
theorem rd_names {t ts tb : TypeId} {v : Value} (h : Rd enc P w base sp held t v) (ht : P.underlying t = some (.slice ts)) (hc : P.cellsOf ts = 1) (ht2 : P.underlying ts = some (.slice tb)) (hc2 : P.cellsOf tb = 1) (he : P.underlying tb = some .string) (hb : P.bytesOf tb = 16) :
  ∃ L : List Nm, NamesAt w v L ∧ ∀ n ∈ L, NmOk n := by
 obtain ⟨vals, hr, hall, hlen0⟩ := rd_slice h ht hc
 have : ∃ L : List Nm, (vals.length = L.length ∧ ∀ i (h : i < vals.length) (h' : i < L.length), Row w vals[i] (L[i].map vs)) ∧ ∀ n ∈ L, NmOk n := by
  clear hr h hlen0
  induction vals with
  | nil => exact ⟨[], ⟨rfl, fun i h => by simp at h⟩, fun n h => by cases h⟩
  | cons u vals ih =>
   obtain ⟨n, hn, hok⟩ := rd_name (hall u (List.mem_cons_self ..)) ht2 hc2 he hb
   obtain ⟨L, ⟨h1, h2⟩, h3⟩ := ih (fun x hx => hall x (List.mem_cons_of_mem _ hx))
   refine ⟨n :: L, ⟨by simp [h1], fun i a b => ?_⟩, fun x hx => ?_⟩
   ·cases i with
    | zero => exact hn
    | succ i => exact h2 i (by simpa using a) (by simpa using b)
   ·rcases List.mem_cons.1 hx with rfl | hx
    ·exact hok
    ·exact h3 x hx
 obtain ⟨L, ⟨h1, h2⟩, h3⟩ := this
 exact ⟨L, ⟨vals, hr, h1, h2⟩, h3⟩
end
section
variable {H : Type} {enc : TypeId × Value → H} {P : Program} {w : World} {base : Nat} {sp : Nat → Bool} {held : Bool}
def RdC (enc : TypeId × Value → H) (P : Program) (w : World) (base : Nat) (sp : Nat → Bool) (held : Bool) (t : TypeId) (cs : List Value) : Prop := ∃ n x, DataW.trod enc P w base sp held n t cs = some x ∧ ∀ k ∈ x.1.weights P t, k ≤ reachBytes
theorem RdC.one {t : TypeId} {v : Value} (h : RdC enc P w base sp held t [v]) : Rd enc P w base sp held t v := h
theorem Rd.c {t : TypeId} {v : Value} (h : Rd enc P w base sp held t v) : RdC enc P w base sp held t [v] := h
theorem cellsV_of {a : Addr} : ∀ (k i : Nat) {l : List Value}, l.length = k → (∀ j (h : j < l.length), w.cell? (a.add (i + j)) = some l[j]) → cellsV w a i k = some l
 | 0, _, l, hl, _ => by
  have : l = [] := List.length_eq_zero_iff.1 hl
  subst this; rfl
 | k + 1, i, l, hl, h => by
  cases l with
  | nil => cases hl
  | cons v l =>
   have h0 := h 0 (by simp)
   have ih := cellsV_of (l := l) k (i + 1) (by simpa using hl) (fun j hj => by
    have := h (j + 1) (by simpa using hj)
    rw [show i + (j + 1) = i + 1 + j from by omega] at this
    simpa using this)
   unfold cellsV
   rw [Nat.add_zero] at h0
   rw [h0, ih]; rfl
theorem rd_sliceC {t e : TypeId} {k : Nat} {v : Value} (h : Rd enc P w base sp held t v) (ht : P.underlying t = some (.slice e)) (hc : P.cellsOf e = k) :
  ∃ L, RowK k w v L ∧ (∀ cs ∈ L, RdC enc P w base sp held e cs) ∧ L.length * P.bytesOf e ≤ reachBytes := by
 obtain ⟨n, x, h, hw⟩ := h
 rcases Go.Deep.open_slice ht h with ⟨h1, _⟩ | ⟨a, len, cap, m, q, D, Pl, h1, _, hl, hm, hmm, rfl, hx⟩
 ·simp only [List.cons.injEq, and_true] at h1
  subst h1
  exact ⟨[], ⟨Option.none, 0, rfl, Nat.le_refl _, fun j h => by simp at h⟩, fun u h => (by cases h), by simp⟩
 ·simp only [List.cons.injEq, and_true] at h1
  subst h1
  have hml : len ≤ m := by rw [hmm]; split <;> omega
  simp only [DataW.weights, ht] at hw
  rw [hc] at hx
  obtain ⟨V, hV⟩ := Go.Deep.choose_lt (α := List Value) (p := fun i cs => w.cells? base (a.add (i * k)) k = some cs ∧ DataW.trod enc P w base sp held q e cs = some (D i, Pl i)) hx
  refine ⟨(List.range len).map V, ⟨some a, cap, by simp, by simpa using hl, fun j hj => ?_⟩, fun u hu => ?_, ?_⟩
  ·simp at hj
   obtain ⟨_, h2, h3⟩ := World.cells?_some (hV j (by omega)).1
   have e1 : ((List.range len).map V)[j]'(by simpa using hj) = V j := by simp
   rw [e1]
   show cellsV w (a.add (j * k)) 0 k = _
   refine cellsV_of k 0 h2 (fun i hi => ?_)
   rw [Nat.zero_add, h3 i (by omega)]
   exact List.getElem?_eq_getElem hi
  ·obtain ⟨j, hj, rfl⟩ := List.mem_map.1 hu
   simp at hj
   refine ⟨_, _, (hV j (by omega)).2, fun q hq => hw q (List.mem_cons_of_mem _ (List.mem_append_left _ (weightsAll_in (d := D j) ?_ hq)))⟩
   exact List.mem_map.2 ⟨j, by simpa using hj, rfl⟩
  ·have h1 := hw _ (List.mem_cons_self ..)
   have h2 : ((List.range len).map V).length * P.bytesOf e ≤ (((List.range len).map D).length + ((List.range (m - len)).map fun j => D (len + j)).length) * P.bytesOf e := Nat.mul_le_mul (by simp) (Nat.le_refl _)
   omega
theorem rd_field {e : TypeId} {fs : Array Field} {cs : List Value} (h : RdC enc P w base sp held e cs) (he : P.underlying e = some (.struct fs)) : cs.length = P.cellsOf e ∧ ∀ (i : Nat) (f : Field), fs[i]? = some f → RdC enc P w base sp held f.type ((cs.drop f.offset).take (P.cellsOf f.type)) := by
 obtain ⟨n, x, h, hw⟩ := h
 obtain ⟨xs, m, _, rfl, hl, hxl, hf⟩ := DataW.trod_struct he h
 refine ⟨hl, fun i f hfi => ?_⟩
 have hi : i < fs.size := (Array.getElem?_eq_some_iff.1 hfi).1
 have h1 := hf i f hfi
 rw [List.getElem?_eq_getElem (by omega)] at h1
 refine ⟨m, _, h1, fun k hk => hw k ?_⟩
 simp only [DataW.weights, he]
 refine DataW.weights_mem_each (ts := fs.toList.map (·.type)) (ds := xs.map (·.1)) (j := i) (t := f.type) (d := xs[i].1) ?_ ?_ k hk
 ·rw [List.getElem?_map]
  rw [show fs.toList[i]? = some f from by simpa using hfi]; rfl
 ·rw [List.getElem?_map, List.getElem?_eq_getElem (by omega)]; rfl
theorem rd_int {t : TypeId} {k : IntKind} {cs : List Value} (h : RdC enc P w base sp held t cs) (ht : P.underlying t = some (.int k)) : ∃ n, cs = [.int k n] ∧ (Lit.int k n).wf = true := by
 obtain ⟨n, x, h, _⟩ := h
 obtain ⟨m, h1, _, h2⟩ := DataW.trod_int ht h
 exact ⟨m, h1, h2⟩
end
set_option maxRecDepth 100000
section
variable {H : Type} {enc : TypeId × Value → H} {P : Program} {w : World} {base : Nat} {sp : Nat → Bool} {held : Bool}
theorem rd_ints {t e : TypeId} {k : IntKind} {v : Value} (h : Rd enc P w base sp held t v) (ht : P.underlying t = some (.slice e)) (hc : P.cellsOf e = 1) (he : P.underlying e = some (.int k)) : ∃ l : List Int, Row w v (l.map (.int k)) ∧ ∀ n ∈ l, (Lit.int k n).wf = true := by
 obtain ⟨vals, hr, hall, _⟩ := rd_slice h ht hc
 obtain ⟨m, rfl, hm⟩ := list_of (f := fun n => Value.int k n) (Q := fun n => (Lit.int k n).wf = true) (fun u hu => by
  obtain ⟨n, h1, h2⟩ := rd_int (hall u hu).c he
  exact ⟨n, by simpa using h1, h2⟩)
 exact ⟨m, hr, hm⟩
theorem wf_u32 {n : Int} (h : (Lit.int .u32 n).wf = true) : 0 ≤ n ∧ n ≤ 4294967295 := by
 simp [Lit.wf, IntKind.min, IntKind.max, IntKind.signed, IntKind.bits] at h
 omega
theorem wf_u8 {n : Int} (h : (Lit.int .u8 n).wf = true) : 0 ≤ n ∧ n ≤ 255 := by
 simp [Lit.wf, IntKind.min, IntKind.max, IntKind.signed, IntKind.bits] at h
 omega
theorem bytes_of {l : List Int} (h : ∀ n ∈ l, (Lit.int .u8 n).wf = true) : ∃ m : List UInt8, l.map (Value.int .u8) = m.map byteV := by
 induction l with
 | nil => exact ⟨[], rfl⟩
 | cons n l ih =>
  obtain ⟨m, hm⟩ := ih (fun x hx => h x (List.mem_cons_of_mem _ hx))
  have hb := wf_u8 (h n (List.mem_cons_self ..))
  obtain ⟨k, rfl⟩ : ∃ k : Nat, n = (k : Int) := ⟨n.toNat, by omega⟩
  exact ⟨UInt8.ofNat k :: m, by rw [List.map_cons, List.map_cons, hm, byteV_of (by omega)]⟩
theorem rd_data {cs : List Value} (h : RdC enc Tryz.prog w base sp held 59 cs) : ∃ d : DatL, DatAt w cs d ∧ ∀ n ∈ d.nums, 0 ≤ n ∧ n ≤ 4294967295 := by
 obtain ⟨hl, hf⟩ := rd_field h rfl
 have hl5 : cs.length = 5 := hl
 match cs, hl5 with
 | [c0, c1, c2, c3, c4], _ =>
  obtain ⟨ty, e0, _⟩ := rd_int (hf 0 _ rfl) rfl
  obtain ⟨names, n1, _⟩ := rd_names (P := Tryz.prog) (ts := 23) (tb := 9) (RdC.one (hf 1 _ rfl)) rfl rfl rfl rfl rfl rfl
  obtain ⟨nums, n2, n3⟩ := rd_ints (RdC.one (hf 2 _ rfl)) rfl rfl rfl
  obtain ⟨texts, n4, _⟩ := rd_name (P := Tryz.prog) (RdC.one (hf 3 _ rfl)) (e := 9) rfl rfl rfl rfl
  obtain ⟨raw, n5, n6⟩ := rd_ints (RdC.one (hf 4 _ rfl)) rfl rfl rfl
  obtain ⟨rb, hrb⟩ := bytes_of n6
  rw [hrb] at n5
  have e0' : c0 = vi ty := List.head_eq_of_cons_eq (show [c0] = [vi ty] from e0)
  exact ⟨⟨ty, names, nums, texts, rb⟩, ⟨c1, c2, c3, c4, by rw [e0'], n1, n2, n4, n5⟩, fun n hn => wf_u32 (n3 n hn)⟩
theorem rd_rec {cs : List Value} (h : RdC enc Tryz.prog w base sp held 110 cs) : ∃ r : RecL, RecAt w cs r ∧ ∀ n ∈ r.dat.nums, 0 ≤ n ∧ n ≤ 4294967295 := by
 obtain ⟨hl, hf⟩ := rd_field h rfl
 have hl7 : cs.length = 7 := hl
 match cs, hl7 with
 | [c0, c1, c2, c3, c4, c5, c6], _ =>
  obtain ⟨owner, n0, _⟩ := rd_name (P := Tryz.prog) (RdC.one (hf 0 _ rfl)) (e := 9) rfl rfl rfl rfl
  obtain ⟨ttl, e1, _⟩ := rd_int (hf 1 _ rfl) rfl
  obtain ⟨d, hd, hn⟩ := rd_data (hf 2 _ rfl)
  have e1' : c1 = v32 ttl := List.head_eq_of_cons_eq (show [c1] = [v32 ttl] from e1)
  have hd' : DatAt w [c2, c3, c4, c5, c6] d := hd
  exact ⟨⟨owner, ttl, d⟩, ⟨c0, [c2, c3, c4, c5, c6], by rw [e1'], n0, hd'⟩, hn⟩
theorem rd_recs {v : Value} (h : Rd enc Tryz.prog w base sp held 24 v) : ∃ R : List RecL, Rows 7 (RecAt w) w v R ∧ NumR R := by
 obtain ⟨L, hL, hall, _⟩ := rd_sliceC h (e := 110) (k := 7) rfl rfl
 have : ∀ L : List (List Value), (∀ cs ∈ L, RdC enc Tryz.prog w base sp held 110 cs) → ∃ R : List RecL, L.length = R.length ∧ (∀ i (h : i < L.length) (h' : i < R.length), RecAt w L[i] R[i]) ∧ NumR R := fun L => by
  induction L with
  | nil => intro _; exact ⟨[], rfl, fun i h => by simp at h, fun r h => by cases h⟩
  | cons cs L ih =>
   intro h
   obtain ⟨r, h1, h2⟩ := rd_rec (h cs (List.mem_cons_self ..))
   obtain ⟨R, a1, a2, a3⟩ := ih (fun x hx => h x (List.mem_cons_of_mem _ hx))
   refine ⟨r :: R, by simp [a1], fun i a b => ?_, fun x hx => ?_⟩
   ·cases i with
    | zero => exact h1
    | succ i => exact a2 i (by simpa using a) (by simpa using b)
   ·rcases List.mem_cons.1 hx with rfl | hx
    ·exact h2
    ·exact a3 x hx
 obtain ⟨R, a1, a2, a3⟩ := this L hall
 exact ⟨R, ⟨L, hL, a1, a2⟩, a3⟩
end
end Go.Proofs.YtopbbjdembnfdaaGreat
