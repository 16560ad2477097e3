/-
  The kit's contracts in this calculus: a call that may be laid, texts compared, a row of texts sorted.
  Conditions: none.
-/
import Derived.Test.YtciadbhnodgpgaaK12
import Derived.Test.YtciadbhnodgpgaaR1
import Derived.Test.YtciadbhnodgpgaaL1
import Derived.CallsIn
set_option linter.unusedVariables false
set_option linter.unusedSimpArgs false
set_option linter.defProp false
namespace Go.Proofs.Ytciadbhnodgpgaa
open Go
set_option maxRecDepth 10000

theorem Fn.of_calls {P : Program} {f : FuncId} {args : Array Value} {w : World} {R : Value → World → Prop} (h : Calls P f args w (fun e w' => ∃ v, e = .returned v ∧ R v w')) : Fn P f args w R := callsIn_wide.2 h
theorem Fn.calls {P : Program} {f : FuncId} {args : Array Value} {w : World} {R : Value → World → Prop} (h : Fn P f args w R) : Calls P f args w (fun e w' => ∃ v, e = .returned v ∧ R v w') := callsIn_wide.1 h

theorem SCompare_ok (w : World) (a b : Lab) : Fn Try.prog 69 #[vs a, vs b] w (fun v w' => v = vi (cmpL a b) ∧ w' = w) :=
  Fn.of_calls (Calls.mono (Any.strings_Compare Try.lays106 ⟨a.toArray⟩ ⟨b.toArray⟩ w) fun _ _ ⟨he, hw⟩ => ⟨_, he, rfl, hw⟩)

theorem LCompare_ok (w : World) (a b : Lab) (ha : a.length ≤ 9000000000000000000) (hb : b.length ≤ 9000000000000000000) : Fn Try.prog 57 #[vs a, vs b] w (fun v w' => v = vi (cmpL (foldL a) (foldL b)) ∧ Ext w w') := by
  refine enter Try.func57 Try.ntmps57 rfl rfl ?_
  repeat (first | (with_reducible first | refine W_seq ?_ | refine W_block ?_ | refine W_skip ?_ | refine W_ret ?_ | refine W_exit ?_ | refine thenQ_normal ?_ | refine thenQ_exit ?_ | refine thenQ_ret ?_ | refine blockQ_normal ?_ | refine blockQ_ret ?_ | refine blockQ_same ?_ | refine blockQ_other rfl ?_) | (refine W_reg (by rfl) ?_; intro gd K hgd hK; simp (disch := first | omega | assumption | rfl) only [↓reduceIte, go_sem, Nat.reduceLT, Nat.reduceEqDiff, Nat.reduceSub]; refine hK _ _ ?_; clear hK hgd; clear K gd))
  refine W_reg (by rfl) ?_; intro gd K hgd hK
  try simp (disch := first | omega | assumption | rfl) only [↓reduceIte, go_sem, Nat.reduceLT, Nat.reduceEqDiff, Nat.reduceSub]
  refine Fn.mono (LFold_ok _ _ ha) ?_
  rintro _ w1 ⟨rfl, hE1⟩
  try simp (disch := first | omega | assumption | rfl) only [↓reduceIte, go_sem, Nat.reduceLT, Nat.reduceEqDiff, Nat.reduceSub]
  refine Fn.mono (LFold_ok _ _ hb) ?_
  rintro _ w2 ⟨rfl, hE2⟩
  try simp (disch := first | omega | assumption | rfl) only [↓reduceIte, go_sem, Nat.reduceLT, Nat.reduceEqDiff, Nat.reduceSub]
  refine Fn.mono (SCompare_ok _ _ _) ?_
  rintro _ w3 ⟨rfl, rfl⟩
  try simp (disch := first | omega | assumption | rfl) only [↓reduceIte, go_sem, Nat.reduceLT, Nat.reduceEqDiff, Nat.reduceSub]
  refine hK _ _ ?_; clear hK hgd; clear K; try clear gd
  repeat (with_reducible first | refine W_seq ?_ | refine W_block ?_ | refine W_skip ?_ | refine W_ret ?_ | refine W_exit ?_ | refine thenQ_normal ?_ | refine thenQ_exit ?_ | refine thenQ_ret ?_ | refine blockQ_normal ?_ | refine blockQ_ret ?_ | refine blockQ_same ?_ | refine blockQ_other rfl ?_)
  refine ret_one (by simp) rfl Try.ntmps57 (by simp only [↓reduceIte, go_sem, Nat.reduceLT, Nat.reduceEqDiff, Nat.reduceSub]; rfl) ?_
  exact ⟨rfl, hE1.trans hE2⟩

theorem grow_of_ext {w w' : World} (h : Ext w w') : w' = Go.Sort.grow (w.drewN (w'.drawn - w.drawn)) (w'.heap.extract w.heap.size w'.heap.size) := by
  have h1 := h.drawn
  have h2 := h.size
  cases w; cases w'
  obtain ⟨e1, e2, e3, _, hb, _⟩ := h
  simp only at e1 e2 e3 hb h1 h2
  subst e1 e2 e3
  simp only [Go.Sort.grow, World.drewN, World.mk.injEq, true_and, and_true]
  refine ⟨?_, by omega⟩
  apply Array.ext_getElem?
  intro i
  rw [Array.getElem?_append]
  split
  · rename_i hi; exact hb i hi (fun h => h)
  · rename_i hi
    rw [Array.getElem?_extract]
    split
    · congr 1; omega
    · rw [Array.getElem?_eq_none (by omega)]

/-- labels that a Fold leaves -/
structure FLab where
  val : Lab
  fold : foldL val = val
  len : val.length ≤ 9000000000000000000
instance : Inhabited FLab := ⟨⟨[], rfl, by decide⟩⟩
def encF (x : FLab) : Value := vs x.val
def cmpF (x y : FLab) : Int := cmpL x.val y.val
theorem FLab.eq {x y : FLab} (h : x.val = y.val) : x = y := by cases x; cases y; cases h; rfl
theorem ltF_t {x y : FLab} : Go.Proofs.ltOf cmpF x y = true ↔ cmpL x.val y.val < 0 := by unfold Go.Proofs.ltOf; exact decide_eq_true_iff
theorem ltF_f {x y : FLab} : Go.Proofs.ltOf cmpF x y = false ↔ ¬ cmpL x.val y.val < 0 := by unfold Go.Proofs.ltOf; exact decide_eq_false_iff_not
theorem swoF : Go.Sort.SWO (Go.Proofs.ltOf cmpF) := by
  refine ⟨fun x => ?_, fun x y z h1 h2 => ?_, fun x y z h1 h2 => ?_⟩
  · rw [ltF_f, cmpL_self]; omega
  · rw [ltF_t] at *
    exact cmpL_lt_trans h1 (by omega)
  · rw [ltF_f] at *
    have b1 := cmpL_neg x.val y.val
    have b2 := cmpL_neg y.val z.val
    have b3 := cmpL_neg x.val z.val
    have := cmpL_trans (a := z.val) (b := y.val) (c := x.val) (by omega) (by omega)
    omega

theorem sortWorld_keep {α : Type} [Inhabited α] {enc : α → Value} {w : World} {blk off n : Nat} {d : Array α} {os : Array Obj} : Keep (fun b => b = blk) w (sortWorld enc w blk off n d os) := by
  refine ⟨rfl, rfl, rfl, ?_, fun b hb hne => ?_, ?_⟩
  · show w.heap.size ≤ ((w.heap.modify blk _) ++ os).size
    simp
  · show ((w.heap.modify blk _) ++ os)[b]? = _
    rw [Array.getElem?_append_left (by simpa using hb), Array.getElem?_modify, if_neg (Ne.symm hne)]
  · show w.drawn ≤ w.drawn + n
    omega

theorem sortWorld_block {α : Type} [Inhabited α] {enc : α → Value} {w : World} {blk off n : Nat} {d : Array α} {os : Array Obj} {cur : Array Value} {e : TypeId} {fr : Nat × Nat} (h : w.heap[blk]? = some (.cells cur e fr)) :
    (sortWorld enc w blk off n d os).heap[blk]? = some (.cells (Go.Sort.putCells enc off d cur) e fr) := by
  show ((w.heap.modify blk _) ++ os)[blk]? = _
  have hlt := (Array.getElem?_eq_some_iff.1 h).1
  rw [Array.getElem?_append_left (by simpa using hlt), Array.getElem?_modify, if_pos rfl, h]
  rfl

theorem SortFunc_ok {w : World} {B : Nat} {v : Value} {xs : List Lab} (hown : w.ownsRow B 9 1 v xs.length (xs.map vs)) (hfold : ∀ x ∈ xs, foldL x = x) (hlab : ∀ x ∈ xs, x.length ≤ 9000000000000000000) (hlen : xs.length ≤ 1000000000000) :
    Fn Try.prog 67 #[v, .func (.func 57) #[] #[]] w (fun _ w' => w'.ownsRow B 9 1 v xs.length ((sortK xs).map vs) ∧ Keep (fun b => some b = v.ownBlock) w w') := by
  obtain ⟨hl, hcase⟩ := hown
  rcases hcase with ⟨rfl, h0⟩ | ⟨g, cap, cur, rfl, hB, hg, hn, hcap, hcs, htake⟩
  · refine Fn.of_calls (Calls.mono (AnyF.slices_SortFunc_none { Try.sortL with } Option.none 0 _ w) ?_)
    rintro _ _ ⟨rfl, rfl⟩
    have : xs = [] := List.length_eq_zero_iff.1 h0
    subst this
    exact ⟨_, rfl, ⟨by simp [sortK], .inl ⟨rfl, rfl⟩⟩, Keep.refl _ _⟩
  · obtain ⟨ds, hds⟩ : ∃ ds : List FLab, ds.map (·.val) = xs := by
      refine ⟨xs.pmap (fun x (h : foldL x = x ∧ x.length ≤ 9000000000000000000) => FLab.mk x h.1 h.2) (fun x hx => ⟨hfold x hx, hlab x hx⟩), ?_⟩
      rw [List.map_pmap]; simp
    have hdl : ds.length = xs.length := by rw [← hds]; simp
    have hto : ∀ x y : FLab, Go.Proofs.ltOf cmpF x y = false → Go.Proofs.ltOf cmpF y x = false → x = y := fun x y h1 h2 => by
      rw [ltF_f] at h1 h2
      have := cmpL_neg x.val y.val
      exact FLab.eq (cmpL_zero (by omega))
    have hcell : ∀ j (hj : j < ds.length), cur[j]? = some (encF ds[j]) := fun j hj => by
      have h1 : (xs.map vs)[j]? = some (vs (xs[j]'(by omega))) := by rw [List.getElem?_map, List.getElem?_eq_getElem (by omega)]; rfl
      rw [← htake, List.getElem?_take, if_pos (by omega)] at h1
      have h2 : xs[j]'(by omega) = ds[j].val := by simp [← hds]
      rw [h2] at h1
      simpa [encF] using h1
    have key := Any.slices_SortFunc_total Try.sortL encF (fun x => rfl) cmpF swoF 57 #[] g 0 cap ds.toArray w
      (fun args w => run_callFunc rfl)
      (fun m os dk hdk x y => by
        refine Calls.mono (Fn.calls (LCompare_ok _ x.val y.val x.len y.len)) ?_
        rintro _ w' ⟨_, rfl, rfl, hE⟩
        rw [x.fold, y.fold]
        exact ⟨rfl, _, _, grow_of_ext hE⟩)
      (fun j hj => by
        have hj' : j < ds.length := by simpa using hj
        rw [cell_of hg, frozen_of hg, Nat.zero_add, hcell j hj', getElem!_pos _ j hj]
        simp)
      (Array.getElem?_eq_some_iff.1 hg).1 (by simp; omega) hto
    rw [show ds.toArray.size = xs.length from by simpa using hdl] at key
    refine Fn.of_calls (Calls.mono key ?_)
    rintro _ _ ⟨rfl, n, os, rfl⟩
    refine ⟨_, rfl, ?_, sortWorld_keep.mono (fun b _ hb => by rw [hb]; rfl)⟩
    have hsort : (ds.mergeSort fun x y => !Go.Proofs.ltOf cmpF y x).map (·.val) = sortK xs := by
      refine sorted_eq ?_ (sortK_sorted _) ?_
      · rw [List.pairwise_map]
        have := List.pairwise_mergeSort (le := fun x y : FLab => !Go.Proofs.ltOf cmpF y x) (fun a b c h1 h2 => by
          rw [Bool.not_eq_true'] at *
          exact swoF.ntrans c b a h2 h1) (fun a b => by
          rw [Bool.or_eq_true, Bool.not_eq_true', Bool.not_eq_true', ltF_f, ltF_f]
          have := cmpL_neg a.val b.val
          omega) ds
        refine this.imp (fun {a b} h => ?_)
        rw [Bool.not_eq_true', ltF_f] at h
        simp only [leL, decide_eq_true_eq]
        have := cmpL_neg a.val b.val
        omega
      · have h1 := (List.mergeSort_perm ds (fun x y => !Go.Proofs.ltOf cmpF y x)).map (·.val)
        rw [hds] at h1
        exact h1.trans (sortK_perm xs).symm
    obtain ⟨es, hes⟩ : ∃ es, (ds.mergeSort fun x y => !Go.Proofs.ltOf cmpF y x) = es := ⟨_, rfl⟩
    have hesl : es.length = xs.length := by rw [← hes, List.length_mergeSort, hdl]
    show World.ownsRow (sortWorld encF w g 0 n (ds.mergeSort fun x y => !Go.Proofs.ltOf cmpF y x).toArray os) B _ _ _ _ _
    rw [hes] at hsort ⊢
    rw [← hsort]
    refine ⟨by simp [hesl], .inr ⟨g, cap, _, rfl, hB, sortWorld_block hg, hn, hcap, by simpa [Go.Sort.putCells] using hcs, ?_⟩⟩
    apply List.ext_getElem?
    intro j
    rw [List.getElem?_take]
    split
    · rename_i hj
      simp only [Nat.mul_one] at hj
      rw [Array.getElem?_toList]
      unfold Go.Sort.putCells
      rw [Array.getElem?_mapIdx]
      have hj2 : j < cur.size := by rw [hcs]; omega
      rw [Array.getElem?_eq_getElem hj2]
      simp only [Option.map_some, Nat.zero_le, true_and, Nat.zero_add, Nat.sub_zero]
      have hj3 : j < es.toArray.size := by simp [hesl]; exact hj
      rw [if_pos hj3, getElem!_pos _ j hj3]
      simp [encF, hesl, hj]
    · rename_i hj
      rw [List.getElem?_eq_none (by simp [hesl]; omega)]
end Go.Proofs.Ytciadbhnodgpgaa
