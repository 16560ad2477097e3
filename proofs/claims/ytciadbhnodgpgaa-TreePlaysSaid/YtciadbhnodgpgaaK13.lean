/-
  Ranges over functions whose iterators read what they laid themselves: a ghost of the consumer's blocks goes along.
  Conditions: none; these are lemmas over any program.
-/
import Derived.Test.YtciadbhnodgpgaaK12
set_option linter.unusedVariables false
set_option linter.unusedSimpArgs false
set_option linter.defProp false
namespace Go.Proofs.Ytciadbhnodgpgaa
open Go

theorem size_put (w : World) (r : Nat) (o : Obj) : (w.putObj r o).heap.size = w.heap.size := by simp

/-- from a call of yield to its end: what stays of the iterator's -/
structure KeepR (n0 n1 : Nat) (X : Nat → Prop) (A B : World) : Prop where
  os : B.os = A.os
  tape : B.tape = A.tape
  output : B.output = A.output
  size : A.heap.size ≤ B.heap.size
  block : ∀ b, b < A.heap.size → (b < n0 ∨ n1 ≤ b) → ¬ X b → B.heap[b]? = A.heap[b]?
  drawn : A.drawn ≤ B.drawn

/-- an iterator as IterG; the consumer's own blocks, U, grow by what the rounds lay; all else that the iterator laid stays as it is -/
def IterU {α : Type} (P : Program) (g : FuncId) (cap : Array Value) (W0 : World) (n0 : Nat) (C : Nat → Prop) (own : Nat) (Pre : List α → α → Prop) (Full : List α → Prop) (enc : Nat → α → (Nat → Prop) → World → Array Value → Prop) : Prop :=
  ∀ (l : Nat) (J : List α → (Nat → Prop) → World → Prop) (Jx : List α → World → Prop) (W : World), Ext W0 W → n0 ≤ W.heap.size →
    (∀ pre U A B, J pre U A → Keep (span W.heap.size own) A B → J pre U B) → (∀ pre A B, Jx pre A → Keep (span W.heap.size own) A B → Jx pre B) →
    (∀ pre U x A args, Pre pre x → J pre U A → W.heap.size + own ≤ A.heap.size → KeepB n0 C W A → enc W.heap.size x U A args → Yld P l args A (fun v B =>
      (v = .bool true ∧ ∃ U', J (pre ++ [x]) U' B ∧ (∀ b, U' b → U b ∨ (A.heap.size ≤ b ∧ b < B.heap.size)) ∧ KeepR n0 W.heap.size (fun b => C b ∨ U b) A B) ∨ (v = .bool false ∧ Jx (pre ++ [x]) B))) →
    J [] NoS W → Fn P g (#[.func (.yield l) #[] #[]] ++ cap) W (fun _ B => (∃ xs U, Full xs ∧ J xs U B) ∨ ∃ pre x, Pre pre x ∧ Jx (pre ++ [x]) B)

def roundU {α : Type} (I : List α → (Nat → Prop) → World → Prop) (Ix : Code → List α → World → Prop) (C U : Nat → Prop) (pre' : List α) (A : World) : Post
  | .normal, _, _, B => ∃ U', I pre' U' B ∧ (∀ b, U' b → U b ∨ (A.heap.size ≤ b ∧ b < B.heap.size)) ∧ Keep (fun b => C b ∨ U b) A B
  | .ret, _, _, B => Ix .ret pre' B ∧ Keep (fun b => C b ∨ U b) A B
  | .exit id, _, _, B => Ix (.exit id) pre' B ∧ Keep (fun b => C b ∨ U b) A B
  | .goto t, _, _, B => Ix (.goto t) pre' B ∧ Keep (fun b => C b ∨ U b) A B
  | _, _, _, _ => False

theorem W_rangeU {α : Type} {P : Program} {n : Nat} {f : Operand} {ps : Array Tmp} {assign body : Code} {Q : Post} {σ : Sto} {ds : List Deferred} {w : World}
    {g : FuncId} {cap : Array Value} {W0 : World} {n0 : Nat} {C : Nat → Prop} {own : Nat} {Pre : List α → α → Prop} {Full : List α → Prop} {enc : Nat → α → (Nat → Prop) → World → Array Value → Prop}
    (hf : ev n σ f = .func (.func g) #[] cap) (hc : callable P g = true) (hit : IterU P g cap W0 n0 C own Pre Full enc) (hW0 : Ext W0 w) (hn0 : n0 ≤ w.heap.size) (hCn : ∀ b, C b → b < w.heap.size)
    (henc : ∀ x U A args, enc (w.heap.size + 2) x U A args → args.size = ps.size)
    (I : List α → (Nat → Prop) → World → Prop) (Ix : Code → List α → World → Prop)
    (hI : ∀ pre U A B, I pre U A → (∀ b, U b → w.heap.size + 2 + own ≤ b) → Keep (span w.heap.size (2 + own)) A B → I pre U B)
    (hIx : ∀ c pre A B, Ix c pre A → Keep (span w.heap.size (2 + own)) A B → Ix c pre B)
    (h0 : I [] NoS w)
    (hround : ∀ (l : Nat) (pre : List α) (U : Nat → Prop) (x : α) (A : World) (args : Array Value), Pre pre x → w.heap.size + 2 + own ≤ A.heap.size → I pre U A → (∀ b, U b → w.heap.size + 2 + own ≤ b ∧ b < A.heap.size) → enc (w.heap.size + 2) x U A args →
      W P (some l) n assign (thenQ (fun σ1 ds1 A1 => ds1 = [] ∧ Keep (fun b => C b ∨ U b) A A1 ∧ ∀ A2, Keep (two w.heap.size) A1 A2 → W P (some l) n body (roundU I Ix C U (pre ++ [x]) A2) σ1 [] A2) (fun _ _ _ _ => False))
        (setPs σ (ps.zip args).toList) [] A)
    (hdone : ∀ xs U w', Full xs → w.heap.size + 2 ≤ w'.heap.size → (∀ b, U b → w.heap.size + 2 + own ≤ b ∧ b < w'.heap.size) → I xs U w' → w'.heap[w.heap.size]? = some (.deferred (some [])) → Q .normal σ ({ target := .collected w.heap.size, args := #[] } :: ds) w')
    (hstop : ∀ c pre x w', w.heap.size + 2 ≤ w'.heap.size → Pre pre x → Ix c (pre ++ [x]) w' → w'.heap[w.heap.size]? = some (.deferred (some [])) →
      W P Option.none n c Q σ ({ target := .collected w.heap.size, args := #[] } :: ds) w') :
    W P Option.none n (.rangeFunc f ps assign body) Q σ ds w := by
  refine wpIn_rangeFunc ?_
  intro fn _
  generalize hrec : recOf fn (act n σ ds).tmps ps assign body w.heap.size = rec
  obtain ⟨W1, hW1⟩ : ∃ W1, (w.alloc (.deferred (some []))).alloc (.loop (rec .ready Option.none)) = W1 := ⟨_, rfl⟩
  have hsz1 : W1.heap.size = w.heap.size + 2 := by rw [← hW1]; simp
  have hL1 : W1.heap[w.heap.size + 1]? = some (.loop (rec .ready Option.none)) := by
    rw [← hW1]; have := World.alloc_heap_new (w.alloc (.deferred (some []))) (.loop (rec .ready Option.none)); rwa [World.size_alloc] at this
  have hK1 : W1.heap[w.heap.size]? = some (.deferred (some [])) := by
    rw [← hW1]; exact (RowKit.Below.heap_alloc _ _ _ (by simp)).trans (World.alloc_heap_new w _)
  have hE1 : Ext w W1 := by rw [← hW1]; exact (Ext.alloc w _).trans (Ext.alloc _ _)
  have hI1 : I [] NoS W1 := hI _ _ _ _ h0 (fun _ h => h.elim) (hE1.mono (fun _ _ h => h.elim))
  have hl2 : two w.heap.size (w.heap.size + 1) := .inr rfl
  have hl2' : span w.heap.size (2 + own) (w.heap.size + 1) := by unfold span; omega
  refine ⟨w.heap.size + 1, [{ target := .collected w.heap.size, args := #[] }], W1, { target := .fn (.func g) cap, args := #[.func (.yield (w.heap.size + 1)) #[] #[]] }, W1, g,
    #[.func (.yield (w.heap.size + 1)) #[] #[]] ++ cap, W1, ?_, ?_, ?_, ?_, fw_depth, ?_⟩
  · rw [← hW1, ← hrec]; exact run_enterLoop_outer _ _ _ _ _
  · simp only [resolve, act_eval, hf]
    simp [Deferred.ofValue, ev]
  · intro f' hf'; trivial
  · simp only [invoke]; exact run_callFunc hc
  · -- the iterator's contract
    have hsp : ∀ {n : Nat} b, b < n → span W1.heap.size own b → span w.heap.size (2 + own) b := fun b _ h => by unfold span at *; omega
    have hCl : ∀ b, two w.heap.size b → ¬ C b := fun b hb hcb => by have := hCn b hcb; rcases hb with rfl | rfl <;> omega
    refine calls_round (CallsIn.mono (hit (w.heap.size + 1)
      (fun pre U B => (I pre U B ∧ ∀ b, U b → w.heap.size + 2 + own ≤ b ∧ b < B.heap.size) ∧ w.heap.size + 2 ≤ B.heap.size ∧ B.heap[w.heap.size + 1]? = some (.loop (rec .ready Option.none)) ∧ B.heap[w.heap.size]? = some (.deferred (some [])))
      (fun pre B => ∃ c, Ix c pre B ∧ w.heap.size + 2 ≤ B.heap.size ∧ B.heap[w.heap.size + 1]? = some (.loop (rec .done (some c))) ∧ B.heap[w.heap.size]? = some (.deferred (some [])))
      W1 (hW0.trans hE1) (by omega) ?_ ?_ ?_ ⟨⟨hI1, fun _ h => h.elim⟩, by omega, hL1, hK1⟩) ?_)
    · rintro pre U A B ⟨⟨hi, hu⟩, hs, hl, hk⟩ hAB
      exact ⟨⟨hI _ _ _ _ hi (fun b hb => (hu b hb).1) (hAB.mono hsp), fun b hb => ⟨(hu b hb).1, Nat.lt_of_lt_of_le (hu b hb).2 hAB.size⟩⟩, Nat.le_trans hs hAB.size, (hAB.block _ (by omega) (by unfold span; omega)).trans hl, (hAB.block _ (by omega) (by unfold span; omega)).trans hk⟩
    · rintro pre A B ⟨c, hi, hs, hl, hk⟩ hAB
      exact ⟨c, hIx _ _ _ _ hi (hAB.mono hsp), Nat.le_trans hs hAB.size, (hAB.block _ (by omega) (by unfold span; omega)).trans hl, (hAB.block _ (by omega) (by unfold span; omega)).trans hk⟩
    · -- one round
      rintro pre U x A args hxs ⟨⟨hi, hu⟩, hs, hl, hk⟩ hsA _ hx
      have hy := run_yield (P := P) (args := args) hl (by rw [← hrec]; exact henc x U A args (by rw [← hsz1]; exact hx))
      unfold Yld callV
      dsimp only
      rw [show (#[] ++ args : Array Value) = args from by simp]
      rw [hy, ← hrec]
      dsimp only [recOf, opR]
      refine round_round (r := Option.none) (n := 0) (roundIn_of_wpIn (F := fw Option.none) (n := 0) trivial ?_)
      have hin : (fw Option.none).inRound (w.heap.size + 1) = fw (some (w.heap.size + 1)) := rfl
      rw [hin]
      have hfold : (ps.zip args).foldl (fun t (x : Tmp × Value) => t.setIfInBounds x.1 x.2) (act n σ ds).tmps = (act n (setPs σ (ps.zip args).toList) []).tmps := by
        rw [← Array.foldl_toList]
        exact foldl_setPs n ds _ σ
      have hst : ({ tmps := (ps.zip args).foldl (fun t (x : Tmp × Value) => t.setIfInBounds x.1 x.2) (act n σ ds).tmps, defers := [] } : Act) = act n (setPs σ (ps.zip args).toList) [] := by
        rw [hfold]; rfl
      have hD1 := (Array.getElem?_eq_some_iff.1 hl).1
      have hno : ∀ b, two w.heap.size b → ¬ (C b ∨ U b) := fun b hb h => by
        rcases h with h | h
        · exact hCl b hb h
        · have := (hu b h).1; rcases hb with rfl | rfl <;> omega
      have hr := hround (w.heap.size + 1) pre U x A args hxs (by omega) hi hu (by rw [← hsz1]; exact hx)
      unfold W at hr
      rw [← hst] at hr
      refine wpIn_mono hr ?_
      rintro e a A1 ⟨σ1, ds1, rfl, hq⟩
      cases e with
      | normal =>
        obtain ⟨rfl, hA1, hbody⟩ := hq
        have hlA1 : A1.heap[w.heap.size + 1]? = some (.loop (rec .ready Option.none)) := (hA1.block _ (by omega) (hno _ hl2)).trans hl
        have hkA1 : A1.heap[w.heap.size]? = some (.deferred (some [])) := (hA1.block _ (by omega) (hno _ (.inl rfl))).trans hk
        have hlt1 : w.heap.size + 1 < A1.heap.size := (Array.getElem?_eq_some_iff.1 hlA1).1
        refine ⟨_, run_beginRound hlA1 (by rw [← hrec]; rfl), ?_⟩
        have hb := hbody _ (keep_put (w := A1) (r := w.heap.size + 1) (o := .loop { rec .ready Option.none with state := .busy }) hl2)
        refine wpIn_mono hb ?_
        have hlA2 : (A1.putObj (w.heap.size + 1) (.loop { rec .ready Option.none with state := .busy })).heap[w.heap.size + 1]? = some (.loop { rec .ready Option.none with state := .busy }) := World.putObj_heap_same hlt1
        have hkA2 : (A1.putObj (w.heap.size + 1) (.loop { rec .ready Option.none with state := .busy })).heap[w.heap.size]? = some (.deferred (some [])) := (World.putObj_heap_other (by omega)).trans hkA1
        have fin : ∀ (jump : Option Code) (B : World), Keep (fun b => C b ∨ U b) (A1.putObj (w.heap.size + 1) (.loop { rec .ready Option.none with state := .busy })) B →
            (Instr.endRound (w.heap.size + 1) jump).run P B = .ok (.bool jump.isNone) (B.putObj (w.heap.size + 1) (.loop (rec (if jump.isNone then .ready else .done) jump))) ∧
            w.heap.size + 2 ≤ (B.putObj (w.heap.size + 1) (.loop (rec (if jump.isNone then .ready else .done) jump))).heap.size ∧
            (B.putObj (w.heap.size + 1) (.loop (rec (if jump.isNone then .ready else .done) jump))).heap[w.heap.size + 1]? = some (.loop (rec (if jump.isNone then .ready else .done) jump)) ∧
            (B.putObj (w.heap.size + 1) (.loop (rec (if jump.isNone then .ready else .done) jump))).heap[w.heap.size]? = some (.deferred (some [])) ∧
            KeepR n0 W1.heap.size (fun b => C b ∨ U b) A (B.putObj (w.heap.size + 1) (.loop (rec (if jump.isNone then .ready else .done) jump))) := by
          intro jump B hB
          have hlB := (hB.block _ (by simp; omega) (hno _ hl2)).trans hlA2
          have hkB := (hB.block _ (by simp; omega) (hno _ (.inl rfl))).trans hkA2
          have hltB : w.heap.size + 1 < B.heap.size := (Array.getElem?_eq_some_iff.1 hlB).1
          have hsB := hB.size
          simp only [size_put] at hsB
          refine ⟨?_, by simp; omega, World.putObj_heap_same hltB, (World.putObj_heap_other (by omega)).trans hkB, ?_⟩
          · have := run_endRound (P := P) jump hlB
            rw [← hrec] at this ⊢
            exact this
          · refine ⟨hB.os.trans hA1.os, hB.tape.trans hA1.tape, hB.output.trans hA1.output, ?_, fun b hb hor hn => ?_, Nat.le_trans hA1.drawn hB.drawn⟩
            · have := hA1.size; simp; omega
            · have h1 := hA1.size
              have hne : b ≠ w.heap.size + 1 := by omega
              exact (World.putObj_heap_other hne).trans ((hB.block b (by simp; omega) hn).trans ((World.putObj_heap_other hne).trans (hA1.block b hb hn)))
        rintro e a B ⟨σ2, ds2, rfl, hq⟩
        cases e with
        | normal =>
          obtain ⟨U', hi', hU', hB⟩ := hq
          obtain ⟨h1, h2, h3, h4, h5⟩ := fin Option.none B hB
          have hsA1 := hA1.size
          have hsB := hB.size
          simp only [size_put] at hsB
          have hU2 : ∀ b, U' b → U b ∨ (A.heap.size ≤ b ∧ b < B.heap.size) := fun b hb => by
            rcases hU' b hb with h | ⟨h, h'⟩
            · exact .inl h
            · simp only [size_put] at h; exact .inr ⟨by omega, h'⟩
          have hu' : ∀ b, U' b → w.heap.size + 2 + own ≤ b ∧ b < B.heap.size := fun b hb => by
            rcases hU2 b hb with h | ⟨h, h'⟩
            · have := hu b h; omega
            · omega
          exact ⟨_, _, h1, _, rfl, .inl ⟨rfl, U', ⟨⟨hI _ _ _ _ hi' (fun b hb => (hu' b hb).1) (keep_put hl2'), fun b hb => by rw [size_put]; exact hu' b hb⟩, h2, h3.trans (by rw [← hrec]; rfl), h4⟩, fun b hb => by rw [size_put]; exact hU2 b hb, h5⟩⟩
        | ret =>
          obtain ⟨hi', hB⟩ := hq
          obtain ⟨h1, h2, h3, h4, _⟩ := fin (some .ret) B hB
          exact ⟨_, _, h1, _, rfl, .inr ⟨rfl, _, hIx _ _ _ _ hi' (keep_put hl2'), h2, h3.trans (by rw [← hrec]; rfl), h4⟩⟩
        | exit id =>
          obtain ⟨hi', hB⟩ := hq
          obtain ⟨h1, h2, h3, h4, _⟩ := fin (some (.exit id)) B hB
          exact ⟨_, _, h1, _, rfl, .inr ⟨rfl, _, hIx _ _ _ _ hi' (keep_put hl2'), h2, h3.trans (by rw [← hrec]; rfl), h4⟩⟩
        | goto t =>
          obtain ⟨hi', hB⟩ := hq
          obtain ⟨h1, h2, h3, h4, _⟩ := fin (some (.goto t)) B hB
          exact ⟨_, _, h1, _, rfl, .inr ⟨rfl, _, hIx _ _ _ _ hi' (keep_put hl2'), h2, h3.trans (by rw [← hrec]; rfl), h4⟩⟩
        | panic c => exact hq.elim
        | outgrown => exact hq.elim
      | ret => exact hq.elim
      | exit id => exact hq.elim
      | goto t => exact hq.elim
      | panic c => exact hq.elim
      | outgrown => exact hq.elim
    · rintro e B ⟨v, rfl, h⟩
      rcases h with ⟨xs, U, hfull, ⟨hi, hu⟩, hs, hl, hk⟩ | ⟨pre, x, hxs, c, hi, hs, hl, hk⟩
      · have hend := run_endLoop (P := P) hl (by rw [← hrec]; simp [recOf])
        have hp : (rec LoopState.ready Option.none).pending = Option.none := by rw [← hrec]; rfl
        rw [hp] at hend
        refine ⟨Option.none, _, hend, ?_⟩
        exact ⟨σ, _, rfl, hdone xs U _ hfull (by simp; omega) (fun b hb => by rw [size_put]; exact hu b hb) (hI _ _ _ _ hi (fun b hb => (hu b hb).1) (keep_put hl2')) ((World.putObj_heap_other (by omega)).trans hk)⟩
      · have hend := run_endLoop (P := P) hl (by rw [← hrec]; simp [recOf])
        have hp : (rec LoopState.done (some c)).pending = some c := by rw [← hrec]; rfl
        rw [hp] at hend
        refine ⟨some c, _, hend, ?_⟩
        exact hstop c pre x _ (by simp; omega) hxs (hIx _ _ _ _ hi (keep_put hl2')) ((World.putObj_heap_other (by omega)).trans hk)


end Go.Proofs.Ytciadbhnodgpgaa
