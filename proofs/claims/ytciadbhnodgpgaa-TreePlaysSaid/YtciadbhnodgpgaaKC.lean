/-
  From a walk to a law's row; arguments opened: texts, slices.
  Conditions: none; these are lemmas over any program.
-/
import Derived.Test.YtciadbhnodgpgaaK9
import Derived.ProofKit
import Derived.OpenShut
import Derived.SizedLaws
import Derived.Deep.Slices
set_option linter.unusedVariables false
set_option linter.unusedSimpArgs false
set_option linter.defProp false
namespace Go.Proofs.Ytciadbhnodgpgaa
open Go Go.ChangeShapes Go.WideShapes Go.ChangeAt Go.RowKit Go.WideElems

theorem Ext.below {w x : World} (h : Ext w x) : RowKit.Below w.heap.size w x := ⟨h.os, h.tape, h.output, h.size, fun k hk => h.block k hk (fun h => h)⟩

theorem Ext.kept {w x : World} (h : Ext w x) (may : MemPlace → Prop) : w.keptBut x may := by
  refine ⟨h.os, h.output, fun i hi => ?_⟩
  rw [h.block i hi (fun h => h)]
  cases hw : w.heap[i]? with
  | none => trivial
  | some o => cases o <;> simp

theorem trodAll_stays {H : Type} {enc : TypeId × Value → H} {P : Program} (hl : laidOutB P = true) {W W' : World} {sp : Nat → Bool} (hE : Ext W W') :
    ∀ {ts : List TypeId} {vs : List Value} {ds : List (DataW H)} {ps : List MemPlace}, (∀ t ∈ ts, P.readableRec t = true ∧ t < P.types.size) → DataW.TrodAll enc P W 0 (fun _ => true) true ts vs ds ps → (∀ x ∈ ps, x.block < W.heap.size) → (∀ x ∈ ps, sp x.block = true) →
      DataW.TrodAll enc P W' 0 sp true ts vs ds ps
  | [], _, _, _, _, h, _, _ => by
    obtain ⟨rfl, rfl, rfl⟩ := trodAll_nil h
    exact trodAll_mk0
  | _ :: _, _, _, _, ht, h, hlt, hs => by
    obtain ⟨v, vs1, d, ds1, a, b, rfl, rfl, rfl, h1, h2⟩ := trodAll_cons h
    obtain ⟨hr, hrow⟩ := ht _ (List.mem_cons_self ..)
    exact trodAll_cons_mk (WideElems.Trod_stays hl hr hrow h1 (fun x hx => hE.below.same (hlt x (List.mem_append_left _ hx))) (fun x hx => hs x (List.mem_append_left _ hx)))
      (trodAll_stays hl hE (fun t h => ht t (List.mem_cons_of_mem _ h)) h2 (fun x hx => hlt x (List.mem_append_right _ hx)) (fun x hx => hs x (List.mem_append_right _ hx)))

theorem frozen_ext {w x : World} (h : Ext w x) {b : Nat} (hb : b < w.heap.size) (o : Nat) : x.frozen? ⟨b, o, Option.none⟩ = w.frozen? ⟨b, o, Option.none⟩ := by
  unfold World.frozen?
  rw [h.block b hb (fun h => h)]

/-- 'post' of a law: true, and all that came in reads as it did -/
theorem law_post {H : Type} {enc : TypeId × Value → H} {P : Program} {f : Func} {s : ChangeSpec} {apart fresh handsOn again : Bool} {W W' : World} {args : Array Value} {ds gs : List (DataW H)} {before : List MemPlace}
    (hW : DataW.Whole enc P f.params.toList s.vars apart W args.toList ds gs before) (hvn : s.vars = []) (hspec : s.fn H ds = { results := [.lit (.bool true)], args := ds }) {tb : TypeId} (hrt : f.resultTypes = #[tb]) (htb : P.underlying tb = some .bool)
    (hl : laidOutB P = true) (hrd : ∀ t ∈ f.params.toList, P.readableRec t = true ∧ t < P.types.size) (hE : Ext W W') : s.post enc P f apart fresh handsOn again W args (.bool true) W' := by
  have hlt := hW.lt
  have hW0 := hW
  obtain ⟨p, q, hA, hV, hpq, hfz, hnd⟩ := hW
  have hq : gs = [] ∧ q = [] := by
    rw [hvn] at hV
    cases gs with
    | nil => exact ⟨rfl, hV⟩
    | cons _ _ => exact hV.elim
  obtain ⟨rfl, rfl⟩ := hq
  rw [List.append_nil] at hpq
  subst hpq
  have hres : ∀ (b : Nat) (sp : Nat → Bool) (hd : Bool), DataW.TrodAll enc P W' b sp hd f.resultTypes.toList ((Value.bool true).resultList f.resultTypes.size) (s.fn H (ds ++ [])).results [] := fun b sp hd => by
    rw [List.append_nil, hspec, hrt]
    exact trodAll_mk1 (shut_bool htb true)
  have hargs : ∀ sp : Nat → Bool, (∀ x ∈ before, sp x.block = true) → DataW.TrodAll enc P W' 0 sp true f.params.toList args.toList (s.fn H (ds ++ [])).args before := fun sp hs => by
    rw [List.append_nil, hspec]
    exact trodAll_stays hl hE hrd hA hlt hs
  have hvars : ∀ sp : Nat → Bool, DataW.TrodVars enc P W' sp s.vars (s.fn H (ds ++ [])).vars [] := fun sp => by
    rw [List.append_nil, hspec, hvn]; rfl
  have hold : ∀ x ∈ before, (fun b => decide (b < W.heap.size)) x.block = true := fun x hx => by simpa using hlt x hx
  refine ⟨ds, [], before, [], before, [], hW0, hres _ _ _, hargs _ hold, hvars _, hE.kept _, fun _ => ?_⟩
  refine ⟨fun j t r h1 h2 => ?_, _, _, ([] ++ before) ++ [], ⟨[] ++ before, [], trodAll_append (hargs _ (fun _ _ => rfl)) (hres _ _ _), hvars _, rfl, ?_, ?_⟩, ?_⟩
  · rw [hrt] at h1 h2
    match j with
    | 0 =>
      simp at h1
      subst h1
      have : r = .bool true := by simpa [Value.resultList] using h2.symm
      subst this
      exact okWide_bool_mk htb true
    | j + 1 => simp at h1
  · intro b off hp
    have hp' : MemPlace.cell b off ∈ before := by simpa using hp
    rw [frozen_ext hE (show b < W.heap.size from hlt _ hp')]
    exact hfz b off hp'
  · intro ha
    simpa using hnd ha
  · intro x hx _
    simpa using hx

theorem law_lift {C : Checked} {os : Os} {f : FuncId} {fn : Func} {s : ChangeSpec} {conds : List PathCond} {apart fresh handsOn again : Bool} {H : Type} {enc : TypeId × Value → H}
    (own : ownKnob C.prog.godebug = none) (started : os.Started) (noInit : C.prog.inits.idxOf? f = none) (hfn : C.prog.funcs[f]? = some fn)
    (witness : ∃ (w : World) (tape : Tape) (i : Input), w.os = os ∧ (w.forCall tape i).Shaped C.prog ∧ i.vars = [] ∧ Input.okWide C.prog (w.forCall tape i) .any w.heap.size f i ∧
      s.pre6 enc C.prog fn conds apart (w.forCall tape i).memory i.args ∧ ({} : Assume).holds C.prog (lone (Frame.enter C.prog f i.args .normal) [] (w.forCall tape i)))
    (hvn : s.vars = []) (hspec : ∀ ds : List (DataW H), ds.length = fn.params.size → s.fn H ds = { results := [.lit (.bool true)], args := ds }) {tb : TypeId} (hrt : fn.resultTypes = #[tb]) (htb : C.prog.underlying tb = some .bool)
    (hl : laidOutB C.prog = true) (hrd : fn.params.toList.all (fun t => C.prog.readableRec t && decide (t < C.prog.types.size)) = true)
    (walk : ∀ (W : World) (base : Nat) (args : List Value) (ds : List (DataW H)) (p : List MemPlace), (∀ (j : Nat) t v, fn.params[j]? = some t → args[j]? = some v → Value.okWide C.prog W .any base t v) →
      DataW.TrodAll enc C.prog W 0 (fun _ => true) true fn.params.toList args ds p → (∀ x ∈ DataW.weightsEach C.prog fn.params.toList ds, x ≤ reachBytes) → Fn C.prog f args.toArray W (fun v W' => v = .bool true ∧ Ext W W')) :
    ReturnsInHanded {} C os f .any (s.pre6 enc C.prog fn conds apart) (s.post enc C.prog fn apart fresh handsOn again) := by
  refine returnsInHanded_of_change_sized own started noInit hfn witness ?_
  intro W base args ds gs before hval hW _ hwt _
  have hW0 := hW
  obtain ⟨p, q, hA, hV, _⟩ := hW
  have hgs : gs = [] := by
    rw [hvn] at hV
    cases gs with
    | nil => rfl
    | cons _ _ => exact hV.elim
  subst hgs
  have hvt : s.plain.varTypes C.prog = [] := by
    unfold DataSpec.varTypes
    rw [show s.plain.vars = [] from hvn]; rfl
  rw [hvt, List.append_nil, List.append_nil] at hwt
  have hlen : ∀ {ts : List TypeId} {vs : List Value} {ds : List (DataW H)} {ps : List MemPlace}, DataW.TrodAll enc C.prog W 0 (fun _ => true) true ts vs ds ps → ds.length = ts.length := by
    intro ts
    induction ts with
    | nil => intro vs ds ps h; obtain ⟨rfl, rfl, rfl⟩ := trodAll_nil h; rfl
    | cons t ts ih =>
      intro vs ds ps h
      obtain ⟨v, vs1, d, ds1, a, b, rfl, rfl, rfl, h1, h2⟩ := trodAll_cons h
      simp [ih h2]
  have hw := walk W base args.toList ds p (fun j t v h1 h2 => hval j t v h1 (by simpa using h2)) hA (fun x hx => by simpa using (List.all_eq_true.1 hwt) x hx)
  rw [Array.toArray_toList] at hw
  refine Calls.mono (callsIn_wide.1 hw) ?_
  rintro e W' ⟨v, rfl, rfl, hE⟩
  refine ⟨_, rfl, law_post hW0 hvn (hspec ds (by rw [hlen hA]; simp)) hrt htb hl (fun t ht => ?_) hE⟩
  have := (List.all_eq_true.1 hrd) t ht
  simpa using this

/-! arguments -/
section
variable {H : Type} {enc : TypeId × Value → H} {P : Program} {w : World} {base : Nat} {sp : Nat → Bool} {held : Bool}

/-- a value that reads, no part of it greater than a machine holds -/
def Rd (enc : TypeId × Value → H) (P : Program) (w : World) (base : Nat) (sp : Nat → Bool) (held : Bool) (t : TypeId) (v : Value) : Prop := ∃ n x, DataW.trod enc P w base sp held n t [v] = some x ∧ ∀ k ∈ x.1.weights P t, k ≤ reachBytes

theorem weightsAll_in {e : TypeId} {d : DataW H} {k : Nat} : ∀ {l : List (DataW H)}, d ∈ l → k ∈ d.weights P e → k ∈ DataW.weightsAll P e l
  | a :: l, hd, hk => by
    simp only [DataW.weightsAll, List.mem_append]
    rcases List.mem_cons.1 hd with rfl | hd
    · exact .inl hk
    · exact .inr (weightsAll_in hd hk)

theorem rd_slice {t e : TypeId} {v : Value} (h : Rd enc P w base sp held t v) (ht : P.underlying t = some (.slice e)) (hc : P.cellsOf e = 1) :
    ∃ vals, Row w v vals ∧ (∀ u ∈ vals, Rd enc P w base sp held e u) ∧ vals.length * P.bytesOf e ≤ reachBytes := by
  obtain ⟨n, x, h, hw⟩ := h
  rcases Go.Deep.open_slice1 ht hc h with ⟨h1, _⟩ | ⟨a, len, cap, m, k, V, D, Pl, h1, _, hl, hm, hmm, rfl, hx⟩
  · simp only [List.cons.injEq, and_true] at h1
    subst h1
    exact ⟨[], ⟨Option.none, 0, rfl, Nat.le_refl _, fun j h => by simp at h⟩, fun u h => (by cases h), by simp⟩
  · simp only [List.cons.injEq, and_true] at h1
    subst h1
    have hml : len ≤ m := by rw [hmm]; split <;> omega
    simp only [DataW.weights, ht] at hw
    refine ⟨(List.range len).map V, ⟨some a, cap, by simp, by simpa using hl, fun j hj => ?_⟩, fun u hu => ?_, ?_⟩
    · simp at hj
      have := (hx j (by omega)).1
      simpa [cellO, adr] using this
    · obtain ⟨j, hj, rfl⟩ := List.mem_map.1 hu
      simp at hj
      refine ⟨_, _, (hx j (by omega)).2, fun q hq => hw q (List.mem_cons_of_mem _ (List.mem_append_left _ (weightsAll_in (d := D j) ?_ hq)))⟩
      exact List.mem_map.2 ⟨j, by simpa using hj, rfl⟩
    · have h1 := hw _ (List.mem_cons_self ..)
      have h2 : ((List.range len).map V).length * P.bytesOf e ≤ (((List.range len).map D).length + ((List.range (m - len)).map fun j => D (len + j)).length) * P.bytesOf e := Nat.mul_le_mul (by simp) (Nat.le_refl _)
      omega

theorem rd_string {t : TypeId} {v : Value} (h : Rd enc P w base sp held t v) (ht : P.underlying t = some .string) : ∃ s : List UInt8, v = vs s ∧ s.length ≤ reachBytes := by
  obtain ⟨n, x, h, hw⟩ := h
  cases n with
  | zero => cases h
  | succ n =>
    unfold DataW.trod at h
    rw [ht] at h
    cases v <;> simp at h
    rename_i s
    obtain ⟨_, rfl⟩ := h
    exact ⟨s.data.toList, by simp [vs], by simpa [DataW.weights, ByteArray.toList_eq] using hw⟩

theorem rd_of_trod {t : TypeId} {v : Value} {d : DataW H} {p : List MemPlace} {ts : List TypeId} {ds : List (DataW H)} (h : DataW.Trod enc P w base sp held t v d p) (hv : v.cells.toList = [v])
    (hw : ∀ x ∈ DataW.weightsEach P ts ds, x ≤ reachBytes) {j : Nat} (ht : ts[j]? = some t) (hd : ds[j]? = some d) : Rd enc P w base sp held t v := by
  obtain ⟨n, h⟩ := h
  rw [hv] at h
  exact ⟨n, _, h, fun k hk => hw k (DataW.weights_mem_each ht hd k hk)⟩

theorem list_of {α β : Type} {f : α → β} {Q : α → Prop} : ∀ {l : List β}, (∀ u ∈ l, ∃ s, u = f s ∧ Q s) → ∃ m : List α, l = m.map f ∧ ∀ s ∈ m, Q s
  | [], _ => ⟨[], rfl, fun s h => by cases h⟩
  | b :: l, h => by
    obtain ⟨s, rfl, hq⟩ := h b (List.mem_cons_self ..)
    obtain ⟨m, rfl, hm⟩ := list_of (fun u hu => h u (List.mem_cons_of_mem _ hu))
    refine ⟨s :: m, rfl, fun x hx => ?_⟩
    rcases List.mem_cons.1 hx with rfl | hx
    · exact hq
    · exact hm x hx
end
end Go.Proofs.Ytciadbhnodgpgaa
