/-
  Going over a map whose keys are texts.
  Conditions: none; these are lemmas over any program.
-/
import Derived.Test.YtciadbhnodgpgaaK11
import Derived.Maps.RangeRun
import Derived.Maps.Range
set_option linter.unusedVariables false
set_option linter.unusedSimpArgs false
set_option linter.defProp false
namespace Go.Proofs.Ytciadbhnodgpgaa
open Go

/-- r goes over the map m, that has l; the keys that it has told -/
def MapIt (w : World) (r m : Nat) (l : List (Lab × Value)) (pre : List Lab) : Prop :=
  ∃ es clk, ∃ ds : List MapEntry, w.heap[m]? = some (.map es clk) ∧ es.toList.map (fun e => (e.key, e.val)) = l.map (fun p => (vs p.1, p.2)) ∧ (es.toList.map (·.born)).Pairwise (· ≠ ·) ∧ (∀ e ∈ es.toList, e.born < clk) ∧
    w.heap[r]? = some (.mapIter (some m) clk (ds.map (·.born)).toArray clk) ∧ (∀ d ∈ ds, d ∈ es.toList) ∧ ds.map (·.key) = pre.map vs

theorem MapIt.map {w : World} {r m : Nat} {l : List (Lab × Value)} {pre : List Lab} (h : MapIt w r m l pre) : MapAt w m l := by
  obtain ⟨es, clk, ds, h1, h2, h3, h4, _⟩ := h
  exact ⟨es, clk, h1, h2, h3, h4⟩

theorem MapIt.block {w x : World} {r m : Nat} {l : List (Lab × Value)} {pre : List Lab} (h : MapIt w r m l pre) (h1 : x.heap[m]? = w.heap[m]?) (h2 : x.heap[r]? = w.heap[r]?) : MapIt x r m l pre := by
  obtain ⟨es, clk, ds, a, b, c, d, e, f⟩ := h
  exact ⟨es, clk, ds, h1.trans a, b, c, d, h2.trans e, f⟩

theorem vs_inj' {a b : List UInt8} (h : vs a = vs b) : a = b := by
  simpa [vs] using h

theorem keys_apart {es : List MapEntry} {l : List (Lab × Value)} (h : es.map (fun e => (e.key, e.val)) = l.map (fun p => (vs p.1, p.2))) (hn : (l.map (·.1)).Nodup) : es.Pairwise (fun x y => x.key ≠ y.key) := by
  have h1 : es.map (·.key) = l.map (fun p => vs p.1) := by
    have := congrArg (List.map Prod.fst) h
    simpa [List.map_map, Function.comp_def] using this
  have h2 : (l.map (fun p => vs p.1)).Pairwise (· ≠ ·) := by
    rw [List.pairwise_map]
    have := List.pairwise_map.1 hn
    exact this.imp (fun hne e => hne (vs_inj' e))
  rw [← h1, List.pairwise_map] at h2
  exact h2

section
variable {P : Program} {d : Option Tmp} {ty : TypeId} {ps : String} {af : Array Edge} {g : Option (Nat × Bool)} {ρ : Operand → Value} {w : World} {K : Value → World → Prop}

theorem op_range {t kt et : TypeId} {x : Operand} {m : Nat} {l : List (Lab × Value)} (ht : tyU P t = some (.map kt et)) (hx : ρ x = .map (some m)) (hm : MapAt w m l)
    (h : ∀ w', MapIt w' w.heap.size m l [] → Ext w w' → w'.heap.size = w.heap.size + 1 → K (.pointer (some ⟨w.heap.size, 0, Option.none⟩)) w') :
    opW P ⟨d, .range t x, ty, ps, af, g⟩ ρ w K := by
  obtain ⟨es, clk, h1, h2, h3, h4⟩ := hm
  have hrun : (Instr.range t (.map (some m))).run P w = .ok (.pointer (some ⟨w.heap.size, 0, Option.none⟩)) (w.alloc (.mapIter (some m) clk #[] clk)) := by
    simp [Instr.range, run_underlying (show P.underlying t = _ from ht), MapKept.run_getObj_map h1, newObj, Sem.run, Result.andThen]
  have hlt := (Array.getElem?_eq_some_iff.1 h1).1
  show opR P K _
  refine opR_val (s := Instr.range t (ρ x)) (by rw [hx]; exact hrun) (h _ ⟨es, clk, [], ?_, h2, h3, h4, ?_, by simp, rfl⟩ (Ext.alloc w _) (by simp))
  · exact (RowKit.Below.heap_alloc _ _ _ hlt).trans h1
  · exact new_block w _

theorem op_next {x : Operand} {r m : Nat} {l : List (Lab × Value)} {pre : List Lab} (hx : ρ x = .pointer (some ⟨r, 0, Option.none⟩)) (hit : MapIt w r m l pre) (hn : (l.map (·.1)).Nodup)
    (h1 : (∀ k ∈ l.map (·.1), k ∈ pre) → K (.tuple #[.bool false]) w)
    (h2 : ∀ k v w', (k, v) ∈ l → k ∉ pre → MapIt w' r m l (pre ++ [k]) → Keep (fun b => b = r) w w' → w'.heap.size = w.heap.size → K (.tuple #[.bool true, vs k, v]) w') :
    opW P ⟨d, .next x false, ty, ps, af, g⟩ ρ w K := by
  obtain ⟨es, clk, ds, e1, e2, e3, e4, e5, e6, e7⟩ := hit
  have hap := keys_apart e2 hn
  have hmem : ∀ e : MapEntry, e ∈ es.toList → ∃ k v, (k, v) ∈ l ∧ e.key = vs k ∧ e.val = v := fun e he => by
    have : (e.key, e.val) ∈ l.map (fun p => (vs p.1, p.2)) := by rw [← e2]; exact List.mem_map.2 ⟨e, he, rfl⟩
    obtain ⟨⟨k, v⟩, hp, heq⟩ := List.mem_map.1 this
    simp only [Prod.mk.injEq] at heq
    exact ⟨k, v, hp, heq.1.symm, heq.2.symm⟩
  rcases run_next_at (P := P) w ty r m clk clk (ds.map (·.born)).toArray es clk e5 e1 e4 (Nat.le_refl _) with ⟨h0, hrun⟩ | ⟨e, he, w1, hw1, hrun⟩
  · show opR P K _
    refine opR_val (s := Instr.next (ρ x) false ty) (by rw [hx]; exact hrun) (h1 fun k hk => ?_)
    obtain ⟨⟨k, v⟩, hp, rfl⟩ := List.mem_map.1 hk
    have : (vs k, v) ∈ es.toList.map (fun e => (e.key, e.val)) := by rw [e2]; exact List.mem_map.2 ⟨_, hp, rfl⟩
    obtain ⟨e, he, heq⟩ := List.mem_map.1 this
    simp only [Prod.mk.injEq] at heq
    have hin : (ds.map (·.born)).toArray.contains e.born = true := by
      cases hc : (ds.map (·.born)).toArray.contains e.born with
      | true => rfl
      | false =>
        have : e ∈ (leftOf es (ds.map (·.born)).toArray).toList := by
          unfold leftOf; simp only [Array.toList_filter, List.mem_filter]; exact ⟨he, by rw [hc]; rfl⟩
        rw [Array.size_eq_length_toList, List.length_eq_zero_iff] at h0
        rw [h0] at this; cases this
    simp only [List.contains_toArray, List.contains_iff_mem, List.mem_map] at hin
    obtain ⟨d', hd, hb⟩ := hin
    have hde : d' = e := by
      exact born_inj e3 (e6 _ hd) he hb
    subst hde
    have : d'.key ∈ pre.map vs := by rw [← e7]; exact List.mem_map.2 ⟨_, hd, rfl⟩
    rw [heq.1] at this
    obtain ⟨k', hk', hkk⟩ := List.mem_map.1 this
    rw [vs_inj' hkk] at hk'; exact hk'
  · have hel : e ∈ es.toList ∧ (ds.map (·.born)).toArray.contains e.born = false := by
      unfold leftOf at he
      simp only [Array.toList_filter, List.mem_filter] at he
      exact ⟨he.1, by simpa using he.2⟩
    obtain ⟨k, v, hkv, hk, hv⟩ := hmem e hel.1
    have hlt : r < w1.heap.size := by
      have := (Array.getElem?_eq_some_iff.1 e5).1
      rcases hw1 with rfl | rfl <;> exact this
    have hrm : r ≠ m := fun e => by rw [e, e1] at e5; cases e5
    have hk1 : Keep (fun b => b = r) w w1 := by rcases hw1 with rfl | rfl <;> first | exact Keep.refl _ _ | exact Keep.drew _ _
    have hput : ChangeMaps.setBlock w1 r (.mapIter (some m) clk ((ds.map (·.born)).toArray.push e.born) clk) = w1.putObj r (.mapIter (some m) clk ((ds.map (·.born)).toArray.push e.born) clk) := rfl
    rw [hput] at hrun
    show opR P K _
    rw [hk, hv] at hrun
    refine opR_val (s := Instr.next (ρ x) false ty) (by rw [hx]; exact hrun) (h2 k v _ hkv ?_ ⟨es, clk, ds ++ [e], ?_, e2, e3, e4, ?_, ?_, ?_⟩ (hk1.trans (keep_put rfl)) ?_)
    · intro hkp
      have : vs k ∈ ds.map (·.key) := by rw [e7]; exact List.mem_map.2 ⟨_, hkp, rfl⟩
      obtain ⟨d', hd, hdk⟩ := List.mem_map.1 this
      have hde : d' = e := entry_eq_of_key hap (e6 _ hd) hel.1 (by rw [hdk, hk])
      subst hde
      have := hel.2
      simp only [List.contains_toArray] at this
      have h3 : (ds.map (·.born)).contains d'.born = true := by rw [List.contains_iff_mem]; exact List.mem_map.2 ⟨_, hd, rfl⟩
      rw [h3] at this; cases this
    · refine (World.putObj_heap_other (fun e => hrm e.symm)).trans ?_
      rcases hw1 with rfl | rfl <;> exact e1
    · rw [World.putObj_heap_same hlt]; simp
    · intro d' hd
      rcases List.mem_append.1 hd with hd | hd
      · exact e6 _ hd
      · rw [List.mem_singleton.1 hd]; exact hel.1
    · rw [List.map_append, e7, List.map_append]; simp [hk]
    · rcases hw1 with rfl | rfl <;> simp

theorem op_entry {x : Operand} {r m : Nat} {l : List (Lab × Value)} {pre : List Lab} {k : Lab} (hx : ρ x = .pointer (some ⟨r, 0, Option.none⟩)) (hit : MapIt w r m l (pre ++ [k]))
    (h : ∀ v, K (.tuple #[vs k, v]) w) :
    opW P ⟨d, .entry x, ty, ps, af, g⟩ ρ w K := by
  obtain ⟨es, clk, ds, e1, e2, e3, e4, e5, e6, e7⟩ := hit
  rcases List.eq_nil_or_concat ds with rfl | ⟨ds', e, rfl⟩
  · simp at e7
  · rw [List.concat_eq_append, List.map_append, List.map_append] at e7
    have e7' := List.append_inj' e7 rfl
    have hk : e.key = vs k := by simpa using e7'.2
    have hrun := run_entry_at (P := P) w r m clk (ds'.map (·.born)).toArray es clk e (by rw [e5]; simp) e1 (e6 _ (by simp)) e3
    rw [hk] at hrun
    show opR P K _
    exact opR_val (s := Instr.entry (ρ x)) (by rw [hx]; exact hrun) (h _)
end
end Go.Proofs.Ytciadbhnodgpgaa
