/-
  Rows of operations, run by equations: opsV in the order of the text, drawV along a plan.
  Conditions: none; these are lemmas over any program.
-/
import Derived.Test.YtciadbhnodgpgaaK2
set_option linter.unusedVariables false
set_option linter.unusedSimpArgs false
set_option linter.defProp false
namespace Go.Proofs.Ytciadbhnodgpgaa
open Go

def optK (v : Option Value) (w : World) (K : Value → World → Prop) (alt : Prop) : Prop :=
  match v with
  | some v => K v w
  | Option.none => alt

theorem optK_congr {v v' : Option Value} {w : World} {K : Value → World → Prop} {alt : Prop} (h : v = v') : optK v w K alt = optK v' w K alt := by rw [h]

def tyZ (P : Program) (t : TypeId) : Option Value := (P.info? t).bind (·.zero)

def one : Value → Bool
  | .agg _ | .tuple _ => false
  | _ => true

/-- storing a row of cells -/
def stC (w : World) (a : Addr) (i : Nat) : List Value → Option World
  | [] => some w
  | v :: l => bif one v && (w.cell? (a.add i)).isSome && !w.frozen? (a.add i) then stC (w.setCell (a.add i) v) a (i + 1) l else Option.none

def stK (P : Program) (t : TypeId) (a v : Value) (w : World) (K : Value → World → Prop) : Prop :=
  match a with
  | .pointer (some a) => v.cells.size = tyS P t ∧ (P.info? t).isSome = true ∧ ∃ w', stC w a 0 v.cells.toList = some w' ∧ K undef w'
  | _ => False

theorem stC_run {P : Program} {a : Addr} : ∀ (l : List Value) (i : Nat) (w w' : World), stC w a i l = some w' → (storeCells a l i).run P w = .ok () w'
  | [], i, w, w', h => by simp [stC] at h; subst h; rfl
  | v :: l, i, w, w', h => by
    unfold stC at h
    cases hc : (one v && (w.cell? (a.add i)).isSome && !w.frozen? (a.add i)) with
    | false => rw [hc] at h; cases h
    | true =>
      rw [hc] at h
      simp only [cond_true] at h
      simp only [Bool.and_eq_true, Bool.not_eq_true'] at hc
      obtain ⟨⟨h1, h2⟩, h3⟩ := hc
      obtain ⟨u, hu⟩ := Option.isSome_iff_exists.1 h2
      have hrec := stC_run (P := P) (a := a) l (i + 1) _ w' h
      unfold storeCells
      have hst : (store (a.add i) v).run P w = .ok () (w.setCell (a.add i) v) := by
        cases v <;> simp only [one] at h1 <;> first | (cases h1; done) | simp [store, Sem.run, hu, h3]
      simp only [Sem.run_bind, hst, Result.andThen_ok]
      exact hrec

theorem stK_run {P : Program} {t : TypeId} {a v : Value} {w : World} {K : Value → World → Prop} (h : stK P t a v w K) :
    opR P K ((do Instr.storeAt t a v; pure .skip : Sem Next).run P w) := by
  unfold stK at h
  split at h
  · rename_i a
    obtain ⟨h1, h2, w', h3, h4⟩ := h
    obtain ⟨inf, hinf⟩ := Option.isSome_iff_exists.1 h2
    have hs : tyS P t = inf.size := by simp [tyS, hinf]
    have := stC_run (P := P) v.cells.toList 0 w w' h3
    have e : (Instr.storeAt t (.pointer (some a)) v).run P w = .ok () w' := by
      simp [Instr.storeAt, Instr.sureAddr, storeVar, sizeOf, typeInfo, program, Sem.run, hinf, h1, hs, this]
    simp only [Sem.run_bind, e, Result.andThen_ok, Sem.run_pure]
    exact h4
  · exact h.elim

/-- a struct or an array out of its parts -/
def bdV (P : Program) (t : TypeId) (parts : List (Nat × Value)) : Option Value :=
  match tyU P t, tyZ P t with
  | some (.struct fs), some z => (Instr.fill (fun i => (fs.map fun f => (f.offset, tyS P f.type))[i]?) z.cells parts).map .agg
  | _, _ => Option.none

def fieldsKnown (P : Program) (t : TypeId) : Bool :=
  match tyU P t with
  | some (.struct fs) => fs.all fun f => (P.info? f.type).isSome
  | _ => false

theorem mapM_sizes {P : Program} {w : World} : ∀ (l : List Field), (∀ f ∈ l, (P.info? f.type).isSome = true) →
    (l.mapM fun f => (do pure (f.offset, ← sizeOf f.type) : Sem (Nat × Nat))).run P w = .ok (l.map fun f => (f.offset, tyS P f.type)) w
  | [], _ => rfl
  | f :: l, h => by
    obtain ⟨inf, hinf⟩ := Option.isSome_iff_exists.1 (h f (List.mem_cons_self ..))
    have ih := mapM_sizes (P := P) (w := w) l (fun g hg => h g (List.mem_cons_of_mem _ hg))
    rw [List.mapM_cons]
    have e1 : (do pure (f.offset, ← sizeOf f.type) : Sem (Nat × Nat)).run P w = .ok (f.offset, tyS P f.type) w := by
      simp [sizeOf, typeInfo, program, Sem.run, hinf, tyS]
    simp only [Sem.run_bind, e1, ih, Result.andThen_ok, Sem.run_pure, List.map_cons]

theorem bdV_run {P : Program} {t : TypeId} {parts : Array (Nat × Value)} {v : Value} {w : World} (hk : fieldsKnown P t = true) (h : bdV P t parts.toList = some v) :
    (Instr.build t parts).run P w = .ok v w := by
  unfold bdV at h
  split at h
  · rename_i fs z hu hz
    unfold fieldsKnown at hk
    rw [hu] at hk
    simp only [Option.map_eq_some_iff] at h
    obtain ⟨cs, hcs, rfl⟩ := h
    have hzv : (zeroValue t).run P w = .ok z w := by
      unfold tyZ at hz
      cases hi : P.info? t with
      | none => rw [hi] at hz; cases hz
      | some inf => rw [hi] at hz; simp at hz; simp [zeroValue, typeInfo, program, Sem.run, hi, hz]
    have hm : (fs.mapM fun f => (do pure (f.offset, ← sizeOf f.type) : Sem (Nat × Nat))).run P w = .ok (fs.map fun f => (f.offset, tyS P f.type)) w := by
      have := mapM_sizes (P := P) (w := w) fs.toList (fun f hf => by simpa using (Array.all_eq_true_iff_forall_mem.1 hk) f (by simpa using hf))
      rw [Array.mapM_eq_mapM_toList, Sem.run_map, this]
      simp only [Result.andThen_ok]
      congr 1
      rw [← Array.toList_inj]; simp
    unfold Instr.build
    simp only [Sem.run_bind, hzv, Result.andThen_ok, Sem.run_pure, underlying, program, show P.underlying t = _ from hu]
    simp only [Sem.run, Result.andThen_ok, Sem.run_bind, hm, show P.underlying t = _ from hu, hcs]
    simp only [Sem.run_bind, hm, Result.andThen_ok, hcs, Sem.run_pure]
  · cases h

/-- a slice out of its parts: the cells -/
def bsC (P : Program) (t : TypeId) (len : Nat) (parts : List (Nat × Value)) : Option (TypeId × Array Value) :=
  match tyU P t with
  | some (.slice e) => match tyZ P e with
    | some z => bif decide (len * tyS P e ≤ 2 ^ 24) && decide (z.cells.size = tyS P e) then
        (Instr.fill (fun i => some (i * tyS P e, tyS P e)) ((Array.range (len * tyS P e)).map (z.cells[· % z.cells.size]!)) parts).map fun cs => (e, cs) else Option.none
    | Option.none => Option.none
  | _ => Option.none

def bsK (P : Program) (t : TypeId) (len : Nat) (parts : List (Nat × Value)) (w : World) (K : Value → World → Prop) : Prop :=
  match bsC P t len parts with
  | some (e, cs) => K (.slice (some ⟨w.heap.size, 0, Option.none⟩) len len) (w.alloc (.cells cs e))
  | Option.none => False

theorem bsK_run {P : Program} {t : TypeId} {len : Nat} {parts : Array (Nat × Value)} {w : World} {K : Value → World → Prop} (h : bsK P t len parts.toList w K) :
    opR P K ((do pure (.value (← Instr.buildSlice t len parts)) : Sem Next).run P w) := by
  unfold bsK at h
  split at h
  · rename_i e cs hb
    unfold bsC at hb
    split at hb
    · rename_i e' hu
      split at hb
      · rename_i z hz
        cases hc : (decide (len * tyS P e' ≤ 2 ^ 24) && decide (z.cells.size = tyS P e')) with
        | false => rw [hc] at hb; cases hb
        | true =>
          rw [hc] at hb
          simp only [cond_true, Option.map_eq_some_iff, Prod.mk.injEq] at hb
          obtain ⟨cs', hcs, rfl, rfl⟩ := hb
          simp only [Bool.and_eq_true, decide_eq_true_eq] at hc
          obtain ⟨hle, hzs⟩ := hc
          have hi : ∃ inf, P.info? e' = some inf ∧ inf.zero = some z := by
            unfold tyZ at hz
            cases hi : P.info? e' with
            | none => rw [hi] at hz; cases hz
            | some inf => rw [hi] at hz; exact ⟨inf, rfl, by simpa using hz⟩
          obtain ⟨inf, hinf, hz'⟩ := hi
          have hs : tyS P e' = inf.size := by simp [tyS, hinf]
          have e1 : (Instr.buildSlice t len parts).run P w = .ok (.slice (some ⟨w.heap.size, 0, Option.none⟩) len len) (w.alloc (.cells cs' e')) := by
            rw [hs] at hle hcs
            have hle' : ¬ (2 ^ 24 < len * inf.size) := by omega
            unfold Instr.buildSlice
            simp only [Sem.run_bind, underlying, program, Sem.run, show P.underlying t = _ from hu, Result.andThen_ok, sizeOf, typeInfo, hinf, Sem.run_pure]
            by_cases h0 : len * inf.size = 0
            · rw [h0] at hcs
              have ez : ∀ f : Nat → Value, Array.map f (Array.range 0) = #[] := fun f => by simp
              rw [ez] at hcs
              simp [h0, ez, hcs, newRow, newObj, Sem.run]
            · simp [hle', h0, zeroValue, typeInfo, program, Sem.run, hinf, hz', hcs, newRow, newObj]
          simp only [Sem.run_bind, e1, Result.andThen_ok, Sem.run_pure]
          exact h
      · cases hb
    · cases hb
  · exact h.elim

def builtinLen (c : Call) : Option (Operand × TypeId) :=
  match c.callee, c.args.toList, c.argTypes.toList with
  | .builtin .len, [x], [t] => some (x, t)
  | _, _, _ => Option.none

/-- one operation, by its kind -/
def opV (P : Program) (o : Oper) (ρ : Operand → Value) (w : World) (K : Value → World → Prop) : Prop :=
  match o.op with
  | .move x => K (ρ x) w
  | .assign x => K (ρ x) w
  | .pick c a b => match ρ c with | .bool t => K (bif t then ρ a else ρ b) w | _ => False
  | .binOp op t x y _ => optK (binV P op t (ρ x) (ρ y)) w K (opW P o ρ w K)
  | .unOp op _ x => optK (unV op (ρ x)) w K (opW P o ρ w K)
  | .load t x => match ρ x with | .pointer p => optK (ldP P w t p) w K False | _ => False
  | .store t a v => stK P t (ρ a) (ρ v) w K
  | .indexAddr t x i => optK (ixA P t (ρ x) (ρ i)) w K (opW P o ρ w K)
  | .index t x i => optK (ixS P t (ρ x) (ρ i)) w K (opW P o ρ w K)
  | .slice t x lo hi mx => optK (slV P t (ρ x) (lo.map ρ) (hi.map ρ) (mx.map ρ)) w K (opW P o ρ w K)
  | .extract x i => optK (exV i (ρ x)) w K False
  | .convert s t x => optK (cvV P s t (ρ x)) w K (opW P o ρ w K)
  | .fieldAddr s x f => optK (fdA P s (ρ x) f) w K (opW P o ρ w K)
  | .nilCheck x => match ρ x with | .pointer p => p.isSome = true ∧ K (.pointer p) w | _ => opW P o ρ w K
  | .makeFunc fn f c => K (.func fn (f.map ρ) (c.map ρ)) w
  | .box e x => K (.pointer (some ⟨w.heap.size, 0, Option.none⟩)) (w.alloc (.cells (ρ x).cells e))
  | .alloc e => match tyZ P e with | some z => K (.pointer (some ⟨w.heap.size, 0, Option.none⟩)) (w.alloc (.cells z.cells e)) | Option.none => False
  | .build t parts => fieldsKnown P t = true ∧ optK (bdV P t (parts.toList.map fun p => (p.1, ρ p.2))) w K False
  | .buildSlice t n parts => bsK P t n (parts.toList.map fun p => (p.1, ρ p.2)) w K
  | .makeMap _ Option.none => K (.map (some w.heap.size)) (w.alloc (.map #[] 0))
  | .call c => match c.callee with
    | .value f => callV P (ρ f) (c.args.map ρ) w K
    | _ => match builtinLen c with
      | some (x, t) => optK (lenV P t (ρ x)) w K (opW P o ρ w K)
      | Option.none => opW P o ρ w K
  | _ => opW P o ρ w K

theorem optK_elim {v : Option Value} {w : World} {K : Value → World → Prop} {alt G : Prop} (h : optK v w K alt) (h1 : ∀ u, v = some u → K u w → G) (h2 : alt → G) : G := by
  cases v with
  | none => exact h2 h
  | some u => exact h1 u rfl h

theorem opR_val {P : Program} {K : Value → World → Prop} {s : Sem Value} {w w' : World} {v : Value} (h : s.run P w = .ok v w') (hk : K v w') :
    opR P K ((do pure (.value (← s)) : Sem Next).run P w) := by
  simp only [Sem.run_bind, h, Result.andThen_ok, Sem.run_pure]; exact hk

theorem opV_sound {P : Program} {o : Oper} {ρ : Operand → Value} {w : World} {K : Value → World → Prop} (h : opV P o ρ w K) : opW P o ρ w K := by
  obtain ⟨dst, op, ty, ps, af, g⟩ := o
  unfold opV at h
  dsimp only at h
  split at h
  · exact h
  · exact h
  · rename_i c a b
    split at h
    · rename_i t ht
      simp only [opW, execOp]
      cases t <;> simp [ht, asBool, opR] <;> exact h
    · exact h.elim
  · rename_i op t x y yt
    refine optK_elim h (fun u hu hk => ?_) id
    exact opR_val (binV_run (x := x) (y := y) hu) hk
  · refine optK_elim h (fun u hu hk => ?_) id
    exact opR_val (unV_run hu) hk
  · split at h
    · rename_i p hp
      refine optK_elim h (fun u hu hk => ?_) False.elim
      refine opR_val (s := Instr.loadAt _ _) (w' := w) (v := u) ?_ hk
      simp only [ldP, Option.bind_eq_some_iff] at hu
      obtain ⟨a, rfl, hu⟩ := hu
      simp only [Instr.loadAt, hp, Instr.sureAddr, Sem.run_bind, Sem.run_pure, Result.andThen_ok]
      exact ldV_run hu
    · exact h.elim
  · exact stK_run h
  · refine optK_elim h (fun u hu hk => ?_) id
    exact opR_val (ixA_run hu) hk
  · refine optK_elim h (fun u hu hk => ?_) id
    exact opR_val (ixS_run hu) hk
  · refine optK_elim h (fun u hu hk => ?_) id
    exact opR_val (slV_run hu) hk
  · rename_i x i
    refine optK_elim h (fun u hu hk => ?_) False.elim
    refine opR_val (s := Instr.extract (ρ x) i) (w' := w) (v := u) ?_ hk
    unfold exV at hu
    split at hu
    · rename_i l hx; simp [Instr.extract, hx, hu]
    · cases hu
  · refine optK_elim h (fun u hu hk => ?_) id
    exact opR_val (cvV_run hu) hk
  · rename_i s x f
    refine optK_elim h (fun u hu hk => ?_) id
    refine opR_val (s := Instr.fieldAt s (ρ x) f) (w' := w) (v := u) ?_ hk
    unfold fdA at hu
    split at hu
    · rename_i fs a hs hx
      split at hu
      case isFalse => cases hu
      rename_i ha
      obtain ⟨a, rfl⟩ := Option.isSome_iff_exists.1 ha
      simp only [Option.bind_eq_some_iff] at hu
      obtain ⟨fd, hfd, hu⟩ := hu
      cases hinf : P.info? fd.type with
      | none => rw [hinf] at hu; cases hu
      | some inf =>
        rw [hinf] at hu
        by_cases h0 : inf.size = 0
        · simp [tyS, hinf, h0] at hu
        · simp [tyS, hinf, h0] at hu
          subst hu
          simp [Instr.fieldAt, underlying, program, Sem.run, show P.underlying s = _ from hs, hfd, hx, Instr.sureAddr, fieldPlace, sizeOf, typeInfo, hinf, h0, adr]
    · cases hu
  · rename_i x
    split at h
    · rename_i p hp
      obtain ⟨hs, h⟩ := h
      obtain ⟨a, rfl⟩ := Option.isSome_iff_exists.1 hs
      simp only [opW, execOp, hp]; exact h
    · exact h
  · exact h
  · rename_i e x
    refine opR_val (s := Instr.box e (ρ x)) (w' := w.alloc (.cells (ρ x).cells e)) ?_ h
    simp [Instr.box, newVar, newRow, newObj, Sem.run]
  · rename_i e
    split at h
    · rename_i z hz
      refine opR_val (s := Instr.alloc e true (.tuple #[])) (w' := w.alloc (.cells z.cells e)) ?_ h
      unfold tyZ at hz
      cases hi : P.info? e with
      | none => rw [hi] at hz; cases hz
      | some inf =>
        rw [hi] at hz
        have hz' : inf.zero = some z := by simpa using hz
        simp [Instr.alloc, zeroValue, typeInfo, program, Sem.run, hi, hz', newVar, newRow, newObj]
    · exact h.elim
  · rename_i t parts
    obtain ⟨hk, h⟩ := h
    refine optK_elim h (fun u hu hk' => ?_) False.elim
    exact opR_val (bdV_run hk (by simpa using hu)) hk'
  · rename_i t n parts
    exact bsK_run (by simpa using h)
  · rename_i t
    refine opR_val (s := Instr.makeMap t (Option.map ρ Option.none)) (w' := w.alloc (.map #[] 0)) ?_ h
    simp [Instr.makeMap, newObj, Sem.run]
  · rename_i c
    split at h
    · rename_i f hf
      obtain ⟨callee, args, ts⟩ := c
      dsimp only at hf
      subst hf
      exact callV_run h
    · split at h
      · rename_i x t hb
        refine optK_elim h (fun u hu hk => ?_) id
        obtain ⟨callee, args, ts⟩ := c
        unfold builtinLen at hb
        dsimp only at hb
        split at hb
        · rename_i x' t' _ hx ht _
          cases hb
          have hargs : args = #[x] := by rw [← Array.toList_inj]; exact hx
          have hts : ts = #[t] := by rw [← Array.toList_inj]; exact ht
          subst hargs
          subst hts
          simp only [opW, execOp, Sem.run_bind, resolve]
          simp only [Sem.run_pure, Result.andThen_ok, invoke, builtin]
          have := lenV_run (P := P) (w := w) hu #[t] ty rfl
          exact opR_val (s := Builtin.len_ #[t] ty (Array.map ρ #[x])) (by simpa using this) hk
        · cases hb
      · exact h
  · exact h

end Go.Proofs.Ytciadbhnodgpgaa
