/-
  Maps whose keys are texts: a look, a put.
  Conditions: none; these are lemmas over any program.
-/
import Derived.Test.YtciadbhnodgpgaaK9
import Derived.MapFrom
set_option linter.unusedVariables false
set_option linter.unusedSimpArgs false
set_option linter.defProp false
namespace Go.Proofs.Ytciadbhnodgpgaa
open Go

abbrev Lab := List UInt8
/-- r is a map that has l, key by key -/
def MapAt (w : World) (r : Nat) (l : List (Lab × Value)) : Prop :=
  ∃ es clk, w.heap[r]? = some (.map es clk) ∧ es.toList.map (fun e => (e.key, e.val)) = l.map (fun p => (vs p.1, p.2)) ∧ (es.toList.map (·.born)).Pairwise (· ≠ ·) ∧ (∀ e ∈ es.toList, e.born < clk)

theorem MapAt.block {w x : World} {r : Nat} {l : List (Lab × Value)} (h : MapAt w r l) (hb : x.heap[r]? = w.heap[r]?) : MapAt x r l := by
  obtain ⟨es, clk, h1, h2⟩ := h
  exact ⟨es, clk, hb.trans h1, h2⟩

theorem sameNow_vs (a b : Lab) : Instr.sameNow .string (vs a) (vs b) = some (a == b) := by
  simp only [vs, Instr.sameNow, Option.some.injEq]
  rw [Bool.eq_iff_iff, MapKept.bytes_beq, beq_iff_eq]
  constructor
  · intro h
    have := congrArg (fun x : ByteArray => x.data.toList) h
    simpa using this
  · rintro rfl; rfl

theorem find_none {key : Lab} : ∀ (es : List MapEntry) (l : List (Lab × Value)) (i : Nat), es.map (fun e => (e.key, e.val)) = l.map (fun p => (vs p.1, p.2)) → l.lookup key = Option.none → Instr.findNow .string (vs key) es i = some Option.none
  | [], [], _, _, _ => rfl
  | [], _ :: _, _, h, _ => by simp at h
  | _ :: _, [], _, h, _ => by simp at h
  | e :: es, (k, v) :: l, i, h, hl => by
    simp only [List.map_cons, List.cons.injEq, Prod.mk.injEq] at h
    obtain ⟨⟨h1, h2⟩, h3⟩ := h
    simp only [List.lookup_cons] at hl
    split at hl
    · cases hl
    · rename_i hne
      simp only [Instr.findNow, h1, sameNow_vs, hne]
      exact find_none es l (i + 1) h3 hl

theorem find_some {key : Lab} {v : Value} : ∀ (es : List MapEntry) (l : List (Lab × Value)) (i : Nat), es.map (fun e => (e.key, e.val)) = l.map (fun p => (vs p.1, p.2)) → l.lookup key = some v → ∃ j, Instr.findNow .string (vs key) es i = some (some (j, v))
  | [], [], _, _, h => by simp at h
  | [], _ :: _, _, h, _ => by simp at h
  | _ :: _, [], _, h, _ => by simp at h
  | e :: es, (k, u) :: l, i, h, hl => by
    simp only [List.map_cons, List.cons.injEq, Prod.mk.injEq] at h
    obtain ⟨⟨h1, h2⟩, h3⟩ := h
    simp only [List.lookup_cons] at hl
    split at hl
    · rename_i heq
      cases hl
      exact ⟨i, by simp only [Instr.findNow, h1, sameNow_vs, heq, h2]⟩
    · rename_i hne
      simp only [Instr.findNow, h1, sameNow_vs, hne]
      exact find_some es l (i + 1) h3 hl

section
variable {P : Program} {d : Option Tmp} {ty : TypeId} {ps : String} {af : Array Edge} {g : Option (Nat × Bool)} {ρ : Operand → Value} {w : World} {K : Value → World → Prop}

theorem MapAt.lk {r : Nat} {l : List (Lab × Value)} (h : MapAt w r l) {t kt et : TypeId} {z : Value} (ht : tyU P t = some (.map kt et)) (hk : tyU P kt = some .string) (hz : tyZ P et = some z) (key : Lab) :
    lkV P w t (.map (some r)) (vs key) false = some ((l.lookup key).getD z) := by
  obtain ⟨es, clk, h1, h2, _⟩ := h
  unfold lkV
  rw [ht]; simp only [hk, hz, h1]
  cases hl : l.lookup key with
  | none => rw [find_none _ _ 0 h2 hl]; rfl
  | some v => obtain ⟨j, hj⟩ := find_some _ _ 0 h2 hl; rw [hj]; rfl

theorem op_mapUpdate {t kt et : TypeId} {m k x : Operand} {r : Nat} {l : List (Lab × Value)} {key : Lab} {v : Value} (ht : tyU P t = some (.map kt et)) (hk : tyU P kt = some .string)
    (hm : ρ m = .map (some r)) (hkey : ρ k = vs key) (hx : ρ x = v) (hat : MapAt w r l) (hno : l.lookup key = Option.none)
    (h : ∀ w', MapAt w' r (l ++ [(key, v)]) → Keep (fun i => i = r) w w' → w'.heap.size = w.heap.size → K undef w') :
    opW P ⟨d, .mapUpdate t m k x, ty, ps, af, g⟩ ρ w K := by
  obtain ⟨es, clk, h1, h2, h3, h4⟩ := hat
  have hf := find_none es.toList l 0 h2 hno
  have hrun : (Instr.mapUpdate t (.map (some r)) (vs key) v).run P w = .ok () (w.putObj r (.map (es.push { key := vs key, val := v, born := clk }) (clk + 1))) := by
    have hck : ∀ e, (Instr.checkKey e 10000 kt (vs key)).run P w = .ok () w := fun e => checkKey_string hk 9999
    simp [Instr.mapUpdate, run_underlying (show P.underlying t = _ from ht), MapKept.run_getObj_map h1, hck, Instr.findKey, run_underlying (show P.underlying kt = _ from hk), hf, MapKept.run_setObj_map _ h1, Result.andThen]
    rfl
  have hlt : r < w.heap.size := (Array.getElem?_eq_some_iff.1 h1).1
  have hat' : MapAt (w.putObj r (.map (es.push { key := vs key, val := v, born := clk }) (clk + 1))) r (l ++ [(key, v)]) := by
    refine ⟨_, _, World.putObj_heap_same hlt, by simp [h2], ?_, ?_⟩
    · simp only [Array.toList_push, List.map_append, List.map_cons, List.map_nil, List.pairwise_append]
      refine ⟨h3, by simp, fun a ha b hb => ?_⟩
      simp at hb; subst hb
      obtain ⟨e, he, rfl⟩ := List.mem_map.1 ha
      exact Nat.ne_of_lt (h4 e he)
    · intro e he
      simp only [Array.toList_push, List.mem_append, List.mem_singleton] at he
      rcases he with he | rfl
      · exact Nat.lt_succ_of_lt (h4 e he)
      · exact Nat.lt_succ_self _
  have hfin := h _ hat' (keep_put rfl) (by simp)
  show opR P K ((do Instr.mapUpdate t (ρ m) (ρ k) (ρ x); pure .skip : Sem Next).run P w)
  rw [hm, hkey, hx]
  simp only [Sem.run_bind, hrun, Result.andThen_ok, Sem.run_pure]
  exact hfin

theorem new_map (w : World) : MapAt (w.alloc (.map #[] 0)) w.heap.size [] := ⟨_, _, new_block w _, rfl, by simp, by simp⟩
end
end Go.Proofs.Ytciadbhnodgpgaa
