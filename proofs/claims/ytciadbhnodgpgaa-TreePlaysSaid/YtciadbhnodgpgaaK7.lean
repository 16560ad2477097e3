/-
  Ranges over functions: an iterator's contract, the law of the loop.
  Conditions: none; these are lemmas over any program.
-/
import Derived.Test.YtciadbhnodgpgaaK6
set_option linter.unusedVariables false
set_option linter.unusedSimpArgs false
set_option linter.defProp false
namespace Go.Proofs.Ytciadbhnodgpgaa
open Go

/-- what a round leaves alone: whatever lay below n0, but for C -/
structure KeepB (n0 : Nat) (C : Nat → Prop) (w w' : World) : Prop where
  os : w'.os = w.os
  tape : w'.tape = w.tape
  output : w'.output = w.output
  size : w.heap.size ≤ w'.heap.size
  block : ∀ b, b < n0 → ¬ C b → w'.heap[b]? = w.heap[b]?
  drawn : w.drawn ≤ w'.drawn

theorem KeepB.refl (n0 : Nat) (C : Nat → Prop) (w : World) : KeepB n0 C w w := ⟨rfl, rfl, rfl, Nat.le_refl _, fun _ _ _ => rfl, Nat.le_refl _⟩
theorem KeepB.trans {n0 : Nat} {C : Nat → Prop} {a b c : World} (h : KeepB n0 C a b) (k : KeepB n0 C b c) : KeepB n0 C a c :=
  ⟨k.os.trans h.os, k.tape.trans h.tape, k.output.trans h.output, Nat.le_trans h.size k.size, fun i hi hc => (k.block i hi hc).trans (h.block i hi hc), Nat.le_trans h.drawn k.drawn⟩
theorem Keep.toB {n0 : Nat} {C S : Nat → Prop} {a b : World} (h : Keep S a b) (hn : n0 ≤ a.heap.size) (hS : ∀ i, i < n0 → S i → C i) : KeepB n0 C a b :=
  ⟨h.os, h.tape, h.output, h.size, fun i hi hc => h.block i (by omega) (fun hs => hc (hS i hi hs)), h.drawn⟩
theorem KeepB.mono {n0 n1 : Nat} {C D : Nat → Prop} {a b : World} (h : KeepB n0 C a b) (hn : n1 ≤ n0) (hC : ∀ i, i < n1 → C i → D i) : KeepB n1 D a b :=
  ⟨h.os, h.tape, h.output, h.size, fun i hi hd => h.block i (by omega) (fun hc => hd (hC i hi hc)), h.drawn⟩
theorem KeepB.keep {C : Nat → Prop} {a b : World} (h : KeepB a.heap.size C a b) : Keep C a b := ⟨h.os, h.tape, h.output, h.size, h.block, h.drawn⟩

/-- one call of yield -/
def Yld (P : Program) (l : Nat) (args : Array Value) (w : World) (R : Value → World → Prop) : Prop := callV P (.func (.yield l) #[] #[]) args w R

theorem Yld.mono {P : Program} {l : Nat} {args : Array Value} {w : World} {R R' : Value → World → Prop} (h : Yld P l args w R) (hr : ∀ v w, R v w → R' v w) : Yld P l args w R' := opR_mono hr h

def span (n k : Nat) : Nat → Prop := fun b => n ≤ b ∧ b < n + k

/-- an iterator, g with what it has captured: it hands out things, one after the other, each such that Pre lets it follow what was handed out; at its end what was handed out is Full; it has so many blocks of its own, the first ones that it lays; between two rounds it lays new blocks at most and turns its own; a round may turn what lay below n0 in C alone -/
def IterG {α : Type} (P : Program) (g : FuncId) (cap : Array Value) (W0 : World) (n0 : Nat) (C : Nat → Prop) (own : Nat) (Pre : List α → α → Prop) (Full : List α → Prop) (enc : α → World → Array Value → Prop) : Prop :=
  ∀ (l : Nat) (J Jx : List α → World → Prop) (W : World), Ext W0 W → n0 ≤ W.heap.size →
    (∀ pre A B, J pre A → Keep (span W.heap.size own) A B → J pre B) → (∀ pre A B, Jx pre A → Keep (span W.heap.size own) A B → Jx pre B) →
    (∀ pre x A args, Pre pre x → J pre A → W.heap.size + own ≤ A.heap.size → KeepB n0 C W A → enc x A args → Yld P l args A (fun v B =>
      (v = .bool true ∧ J (pre ++ [x]) B ∧ KeepB n0 C A B ∧ ∀ b, span W.heap.size own b → B.heap[b]? = A.heap[b]?) ∨ (v = .bool false ∧ Jx (pre ++ [x]) B))) →
    J [] W → Fn P g (#[.func (.yield l) #[] #[]] ++ cap) W (fun _ B => (∃ xs, Full xs ∧ J xs B) ∨ ∃ pre x, Pre pre x ∧ Jx (pre ++ [x]) B)

/-- one that hands out xs -/
def Iter {α : Type} (P : Program) (g : FuncId) (cap : Array Value) (W0 : World) (n0 : Nat) (C : Nat → Prop) (xs : List α) (enc : α → World → Array Value → Prop) : Prop :=
  ∀ (l : Nat) (J Jx : List α → World → Prop) (W : World), Ext W0 W → n0 ≤ W.heap.size →
    (∀ pre A B, J pre A → Ext A B → J pre B) → (∀ pre A B, Jx pre A → Ext A B → Jx pre B) →
    (∀ pre x suf A args, xs = pre ++ x :: suf → J pre A → KeepB n0 C W A → enc x A args → Yld P l args A (fun v B =>
      (v = .bool true ∧ J (pre ++ [x]) B ∧ KeepB n0 C A B) ∨ (v = .bool false ∧ Jx (pre ++ [x]) B))) →
    J [] W → Fn P g (#[.func (.yield l) #[] #[]] ++ cap) W (fun _ B => J xs B ∨ ∃ pre x suf, xs = pre ++ x :: suf ∧ Jx (pre ++ [x]) B)

theorem Iter.toG {α : Type} {P : Program} {g : FuncId} {cap : Array Value} {W0 : World} {n0 : Nat} {C : Nat → Prop} {xs : List α} {enc : α → World → Array Value → Prop} (h : Iter P g cap W0 n0 C xs enc) :
    IterG P g cap W0 n0 C 0 (fun pre x => ∃ suf, xs = pre ++ x :: suf) (fun l => l = xs) enc := fun l J Jx W h1 h2 h3 h4 h5 h6 =>
  Fn.mono (h l J Jx W h1 h2 (fun pre A B hj hk => h3 pre A B hj (hk.mono (fun _ _ h => h.elim))) (fun pre A B hj hk => h4 pre A B hj (hk.mono (fun _ _ h => h.elim)))
    (fun pre x suf A args e hj hk he => Yld.mono (h5 pre x A args ⟨suf, e⟩ hj (by have := hk.size; omega) hk he) (fun v B hr => by
      rcases hr with ⟨h1, h2, h3, _⟩ | hr
      · exact .inl ⟨h1, h2, h3⟩
      · exact .inr hr)) h6) (fun v B hr => by
    rcases hr with hr | ⟨pre, x, suf, e, hr⟩
    · exact .inl ⟨xs, rfl, hr⟩
    · exact .inr ⟨pre, x, ⟨suf, e⟩, hr⟩)

def setPs (σ : Sto) : List (Tmp × Value) → Sto
  | [] => σ
  | (t, v) :: l => setPs (upd σ t v) l

theorem foldl_setPs (n : Nat) (ds : List Deferred) : ∀ (l : List (Tmp × Value)) (σ : Sto), l.foldl (fun t (p, v) => t.setIfInBounds p v) (act n σ ds).tmps = (act n (setPs σ l) ds).tmps
  | [], _ => rfl
  | (p, v) :: l, σ => by
    simp only [List.foldl_cons, act_set]
    exact foldl_setPs n ds l (upd σ p v)

theorem setPs_nil (σ : Sto) : setPs σ [] = σ := nr rfl
theorem setPs_cons (σ : Sto) (t : Tmp) (v : Value) (l : List (Tmp × Value)) : setPs σ ((t, v) :: l) = setPs (upd σ t v) l := nr rfl
theorem zip_l (l : List Tmp) (m : List Value) : (l.toArray.zip m.toArray).toList = l.zip m := by simp
theorem zip_cons (a : Tmp) (b : Value) (l : List Tmp) (m : List Value) : (a :: l).zip (b :: m) = (a, b) :: l.zip m := nr rfl
theorem zip_nil : ([] : List Tmp).zip ([] : List Value) = [] := nr rfl
attribute [go_sem] setPs_nil setPs_cons zip_l zip_cons zip_nil

/-- the two blocks of an outermost loop -/
def two (D : Nat) : Nat → Prop := fun b => b = D ∨ b = D + 1

theorem keep_put {w : World} {r : Nat} {o : Obj} {S : Nat → Prop} (hr : S r) : Keep S w (w.putObj r o) :=
  ⟨rfl, rfl, rfl, by simp, fun b _ hb => World.putObj_heap_other (fun e => hb (e ▸ hr)), Nat.le_refl _⟩

/-- a body's ways out of a round -/
def roundQ {α : Type} (I : List α → World → Prop) (Ix : Code → List α → World → Prop) (n2 : Nat) (C : Nat → Prop) (pre' : List α) (A : World) : Post
  | .normal, _, _, B => I pre' B ∧ KeepB n2 C A B
  | .ret, _, _, B => Ix .ret pre' B ∧ KeepB n2 C A B
  | .exit id, _, _, B => Ix (.exit id) pre' B ∧ KeepB n2 C A B
  | .goto t, _, _, B => Ix (.goto t) pre' B ∧ KeepB n2 C A B
  | _, _, _, _ => False

def recOf (fn : FuncId) (tmps : Array Value) (ps : Array Tmp) (assign body : Code) (D : Nat) (st : LoopState) (pe : Option Code) : Loop :=
  { state := st, pending := pe, fn, tmps, params := ps, assign, body, defers := D }

theorem W_rangeG {α : Type} {P : Program} {n : Nat} {f : Operand} {ps : Array Tmp} {assign body : Code} {Q : Post} {σ : Sto} {ds : List Deferred} {w : World}
    {g : FuncId} {cap : Array Value} {W0 : World} {n0 : Nat} {C : Nat → Prop} {own : Nat} {Pre : List α → α → Prop} {Full : List α → Prop} {enc : α → World → Array Value → Prop}
    (hf : ev n σ f = .func (.func g) #[] cap) (hc : callable P g = true) (hit : IterG P g cap W0 n0 C own Pre Full enc) (hW0 : Ext W0 w) (hn0 : n0 ≤ w.heap.size) (hCn : ∀ b, C b → b < w.heap.size)
    (henc : ∀ x A args, enc x A args → args.size = ps.size)
    (I : List α → World → Prop) (Ix : Code → List α → World → Prop)
    (hI : ∀ pre A B, I pre A → Keep (span w.heap.size (2 + own)) A B → I pre B)
    (hIx : ∀ c pre A B, Ix c pre A → Keep (span w.heap.size (2 + own)) A B → Ix c pre B)
    (h0 : I [] w)
    (hround : ∀ (l : Nat) (pre : List α) (x : α) (A : World) (args : Array Value), Pre pre x → w.heap.size + 2 + own ≤ A.heap.size → I pre A → enc x A args →
      W P (some l) n assign (thenQ (fun σ1 ds1 A1 => ds1 = [] ∧ KeepB (w.heap.size + 2 + own) C A A1 ∧ ∀ A2, Keep (two w.heap.size) A1 A2 → W P (some l) n body (roundQ I Ix (w.heap.size + 2 + own) C (pre ++ [x]) A2) σ1 [] A2) (fun _ _ _ _ => False))
        (setPs σ (ps.zip args).toList) [] A)
    (hdone : ∀ xs w', Full xs → w.heap.size + 2 ≤ w'.heap.size → I xs w' → w'.heap[w.heap.size]? = some (.deferred (some [])) → Q .normal σ ({ target := .collected w.heap.size, args := #[] } :: ds) w')
    (hstop : ∀ c pre x w', w.heap.size + 2 ≤ w'.heap.size → Pre pre x → Ix c (pre ++ [x]) w' → w'.heap[w.heap.size]? = some (.deferred (some [])) →
      W P Option.none n c Q σ ({ target := .collected w.heap.size, args := #[] } :: ds) w') :
    W P Option.none n (.rangeFunc f ps assign body) Q σ ds w := by
  refine wpIn_rangeFunc ?_
  intro fn _
  generalize hrec : recOf fn (act n σ ds).tmps ps assign body w.heap.size = rec
  obtain ⟨W1, hW1⟩ : ∃ W1, (w.alloc (.deferred (some []))).alloc (.loop (rec .ready Option.none)) = W1 := ⟨_, rfl⟩
  have hsz1 : W1.heap.size = w.heap.size + 2 := by rw [← hW1]; simp
  have hL1 : W1.heap[w.heap.size + 1]? = some (.loop (rec .ready Option.none)) := by
    rw [← hW1]; have := World.alloc_heap_new (w.alloc (.deferred (some []))) (.loop (rec .ready Option.none)); rwa [World.size_alloc] at this
  have hK1 : W1.heap[w.heap.size]? = some (.deferred (some [])) := by
    rw [← hW1]; exact (RowKit.Below.heap_alloc _ _ _ (by simp)).trans (World.alloc_heap_new w _)
  have hE1 : Ext w W1 := by rw [← hW1]; exact (Ext.alloc w _).trans (Ext.alloc _ _)
  have hI1 : I [] W1 := hI _ _ _ h0 (hE1.mono (fun _ _ h => h.elim))
  have hl2 : two w.heap.size (w.heap.size + 1) := .inr rfl
  have hl2' : span w.heap.size (2 + own) (w.heap.size + 1) := by unfold span; omega
  refine ⟨w.heap.size + 1, [{ target := .collected w.heap.size, args := #[] }], W1, { target := .fn (.func g) cap, args := #[.func (.yield (w.heap.size + 1)) #[] #[]] }, W1, g,
    #[.func (.yield (w.heap.size + 1)) #[] #[]] ++ cap, W1, ?_, ?_, ?_, ?_, fw_depth, ?_⟩
  · rw [← hW1, ← hrec]; exact run_enterLoop_outer _ _ _ _ _
  · simp only [resolve, act_eval, hf]
    simp [Deferred.ofValue, ev]
  · intro f' hf'; trivial
  · simp only [invoke]; exact run_callFunc hc
  · -- the iterator's contract
    have hsp : ∀ {n : Nat} b, b < n → span W1.heap.size own b → span w.heap.size (2 + own) b := fun b _ h => by unfold span at *; omega
    have hCl : ∀ b, two w.heap.size b → ¬ C b := fun b hb hcb => by have := hCn b hcb; rcases hb with rfl | rfl <;> omega
    refine calls_round (CallsIn.mono (hit (w.heap.size + 1)
      (fun pre B => I pre B ∧ w.heap.size + 2 ≤ B.heap.size ∧ B.heap[w.heap.size + 1]? = some (.loop (rec .ready Option.none)) ∧ B.heap[w.heap.size]? = some (.deferred (some [])))
      (fun pre B => ∃ c, Ix c pre B ∧ w.heap.size + 2 ≤ B.heap.size ∧ B.heap[w.heap.size + 1]? = some (.loop (rec .done (some c))) ∧ B.heap[w.heap.size]? = some (.deferred (some [])))
      W1 (hW0.trans hE1) (by omega) ?_ ?_ ?_ ⟨hI1, by omega, hL1, hK1⟩) ?_)
    · rintro pre A B ⟨hi, hs, hl, hk⟩ hAB
      exact ⟨hI _ _ _ hi (hAB.mono hsp), Nat.le_trans hs hAB.size, (hAB.block _ (by omega) (by unfold span; omega)).trans hl, (hAB.block _ (by omega) (by unfold span; omega)).trans hk⟩
    · rintro pre A B ⟨c, hi, hs, hl, hk⟩ hAB
      exact ⟨c, hIx _ _ _ _ hi (hAB.mono hsp), Nat.le_trans hs hAB.size, (hAB.block _ (by omega) (by unfold span; omega)).trans hl, (hAB.block _ (by omega) (by unfold span; omega)).trans hk⟩
    · -- one round
      rintro pre x A args hxs ⟨hi, hs, hl, hk⟩ hsA _ hx
      have hy := run_yield (P := P) (args := args) hl (by rw [← hrec]; exact henc x A args hx)
      unfold Yld callV
      dsimp only
      rw [show (#[] ++ args : Array Value) = args from by simp]
      rw [hy, ← hrec]
      dsimp only [recOf, opR]
      refine round_round (r := Option.none) (n := 0) (roundIn_of_wpIn (F := fw Option.none) (n := 0) trivial ?_)
      have hin : (fw Option.none).inRound (w.heap.size + 1) = fw (some (w.heap.size + 1)) := rfl
      rw [hin]
      have hfold : (ps.zip args).foldl (fun t (x : Tmp × Value) => t.setIfInBounds x.1 x.2) (act n σ ds).tmps = (act n (setPs σ (ps.zip args).toList) []).tmps := by
        rw [← Array.foldl_toList]
        exact foldl_setPs n ds _ σ
      have hst : ({ tmps := (ps.zip args).foldl (fun t (x : Tmp × Value) => t.setIfInBounds x.1 x.2) (act n σ ds).tmps, defers := [] } : Act) = act n (setPs σ (ps.zip args).toList) [] := by
        rw [hfold]; rfl
      have hr := hround (w.heap.size + 1) pre x A args hxs (by omega) hi hx
      unfold W at hr
      rw [← hst] at hr
      refine wpIn_mono hr ?_
      rintro e a A1 ⟨σ1, ds1, rfl, hq⟩
      cases e with
      | normal =>
        obtain ⟨rfl, hA1, hbody⟩ := hq
        have hlA1 : A1.heap[w.heap.size + 1]? = some (.loop (rec .ready Option.none)) := (hA1.block _ (by omega) (hCl _ hl2)).trans hl
        have hkA1 : A1.heap[w.heap.size]? = some (.deferred (some [])) := (hA1.block _ (by omega) (hCl _ (.inl rfl))).trans hk
        have hlt1 : w.heap.size + 1 < A1.heap.size := (Array.getElem?_eq_some_iff.1 hlA1).1
        refine ⟨_, run_beginRound hlA1 (by rw [← hrec]; rfl), ?_⟩
        have hb := hbody _ (keep_put (w := A1) (r := w.heap.size + 1) (o := .loop { rec .ready Option.none with state := .busy }) hl2)
        refine wpIn_mono hb ?_
        have hlA2 : (A1.putObj (w.heap.size + 1) (.loop { rec .ready Option.none with state := .busy })).heap[w.heap.size + 1]? = some (.loop { rec .ready Option.none with state := .busy }) := World.putObj_heap_same hlt1
        have hkA2 : (A1.putObj (w.heap.size + 1) (.loop { rec .ready Option.none with state := .busy })).heap[w.heap.size]? = some (.deferred (some [])) := (World.putObj_heap_other (by omega)).trans hkA1
        have fin : ∀ (jump : Option Code) (B : World), KeepB (w.heap.size + 2 + own) C (A1.putObj (w.heap.size + 1) (.loop { rec .ready Option.none with state := .busy })) B →
            (Instr.endRound (w.heap.size + 1) jump).run P B = .ok (.bool jump.isNone) (B.putObj (w.heap.size + 1) (.loop (rec (if jump.isNone then .ready else .done) jump))) ∧
            w.heap.size + 2 ≤ (B.putObj (w.heap.size + 1) (.loop (rec (if jump.isNone then .ready else .done) jump))).heap.size ∧
            (B.putObj (w.heap.size + 1) (.loop (rec (if jump.isNone then .ready else .done) jump))).heap[w.heap.size + 1]? = some (.loop (rec (if jump.isNone then .ready else .done) jump)) ∧
            (B.putObj (w.heap.size + 1) (.loop (rec (if jump.isNone then .ready else .done) jump))).heap[w.heap.size]? = some (.deferred (some [])) ∧
            KeepB n0 C A (B.putObj (w.heap.size + 1) (.loop (rec (if jump.isNone then .ready else .done) jump))) ∧
            ∀ b, span W1.heap.size own b → (B.putObj (w.heap.size + 1) (.loop (rec (if jump.isNone then .ready else .done) jump))).heap[b]? = A.heap[b]? := by
          intro jump B hB
          have hlB := (hB.block _ (by omega) (hCl _ hl2)).trans hlA2
          have hkB := (hB.block _ (by omega) (hCl _ (.inl rfl))).trans hkA2
          have hltB : w.heap.size + 1 < B.heap.size := (Array.getElem?_eq_some_iff.1 hlB).1
          refine ⟨?_, by simp; omega, World.putObj_heap_same hltB, (World.putObj_heap_other (by omega)).trans hkB, ?_, ?_⟩
          · have := run_endRound (P := P) jump hlB
            rw [← hrec] at this ⊢
            exact this
          · refine (hA1.mono (by omega) (fun _ _ h => h)).trans (KeepB.trans ?_ ((hB.mono (by omega) (fun _ _ h => h)).trans ?_))
            · exact (keep_put (S := two w.heap.size) hl2).toB (by omega) (fun i hi hs => by rcases hs with rfl | rfl <;> omega)
            · exact (keep_put (S := two w.heap.size) hl2).toB (by omega) (fun i hi hs => by rcases hs with rfl | rfl <;> omega)
          · intro b hb
            unfold span at hb
            have hCb : ¬ C b := fun h => by have := hCn b h; omega
            exact (World.putObj_heap_other (by omega)).trans ((hB.block b (by omega) hCb).trans ((World.putObj_heap_other (by omega)).trans (hA1.block b (by omega) hCb)))
        rintro e a B ⟨σ2, ds2, rfl, hq⟩
        cases e with
        | normal =>
          obtain ⟨hi', hB⟩ := hq
          obtain ⟨h1, h2, h3, h4, h5, h6⟩ := fin Option.none B hB
          exact ⟨_, _, h1, _, rfl, .inl ⟨rfl, ⟨hI _ _ _ hi' (keep_put hl2'), h2, h3.trans (by rw [← hrec]; rfl), h4⟩, h5, h6⟩⟩
        | ret =>
          obtain ⟨hi', hB⟩ := hq
          obtain ⟨h1, h2, h3, h4, h5, _⟩ := fin (some .ret) B hB
          exact ⟨_, _, h1, _, rfl, .inr ⟨rfl, _, hIx _ _ _ _ hi' (keep_put hl2'), h2, h3.trans (by rw [← hrec]; rfl), h4⟩⟩
        | exit id =>
          obtain ⟨hi', hB⟩ := hq
          obtain ⟨h1, h2, h3, h4, h5, _⟩ := fin (some (.exit id)) B hB
          exact ⟨_, _, h1, _, rfl, .inr ⟨rfl, _, hIx _ _ _ _ hi' (keep_put hl2'), h2, h3.trans (by rw [← hrec]; rfl), h4⟩⟩
        | goto t =>
          obtain ⟨hi', hB⟩ := hq
          obtain ⟨h1, h2, h3, h4, h5, _⟩ := fin (some (.goto t)) B hB
          exact ⟨_, _, h1, _, rfl, .inr ⟨rfl, _, hIx _ _ _ _ hi' (keep_put hl2'), h2, h3.trans (by rw [← hrec]; rfl), h4⟩⟩
        | panic c => exact hq.elim
        | outgrown => exact hq.elim
      | ret => exact hq.elim
      | exit id => exact hq.elim
      | goto t => exact hq.elim
      | panic c => exact hq.elim
      | outgrown => exact hq.elim
    · rintro e B ⟨v, rfl, h⟩
      rcases h with ⟨xs, hfull, hi, hs, hl, hk⟩ | ⟨pre, x, hxs, c, hi, hs, hl, hk⟩
      · have hend := run_endLoop (P := P) hl (by rw [← hrec]; simp [recOf])
        have hp : (rec LoopState.ready Option.none).pending = Option.none := by rw [← hrec]; rfl
        rw [hp] at hend
        refine ⟨Option.none, _, hend, ?_⟩
        exact ⟨σ, _, rfl, hdone xs _ hfull (by simp; omega) (hI _ _ _ hi (keep_put hl2')) ((World.putObj_heap_other (by omega)).trans hk)⟩
      · have hend := run_endLoop (P := P) hl (by rw [← hrec]; simp [recOf])
        have hp : (rec LoopState.done (some c)).pending = some c := by rw [← hrec]; rfl
        rw [hp] at hend
        refine ⟨some c, _, hend, ?_⟩
        exact hstop c pre x _ (by simp; omega) hxs (hIx _ _ _ _ hi (keep_put hl2')) ((World.putObj_heap_other (by omega)).trans hk)

/-- a function's end behind one range over a function -/
theorem W_range {α : Type} {P : Program} {n : Nat} {f : Operand} {ps : Array Tmp} {assign body : Code} {Q : Post} {σ : Sto} {ds : List Deferred} {w : World}
    {g : FuncId} {cap : Array Value} {W0 : World} {n0 : Nat} {C : Nat → Prop} {xs : List α} {enc : α → World → Array Value → Prop}
    (hf : ev n σ f = .func (.func g) #[] cap) (hc : callable P g = true) (hit : Iter P g cap W0 n0 C xs enc) (hW0 : Ext W0 w) (hn0 : n0 ≤ w.heap.size) (hCn : ∀ b, C b → b < w.heap.size)
    (henc : ∀ x A args, enc x A args → args.size = ps.size)
    (I : List α → World → Prop) (Ix : Code → List α → World → Prop)
    (hI : ∀ pre A B, I pre A → Keep (two w.heap.size) A B → I pre B)
    (hIx : ∀ c pre A B, Ix c pre A → Keep (two w.heap.size) A B → Ix c pre B)
    (h0 : I [] w)
    (hround : ∀ (l : Nat) (pre : List α) (x : α) (suf : List α) (A : World) (args : Array Value), xs = pre ++ x :: suf → w.heap.size + 2 ≤ A.heap.size → I pre A → enc x A args →
      W P (some l) n assign (thenQ (fun σ1 ds1 A1 => ds1 = [] ∧ KeepB (w.heap.size + 2) C A A1 ∧ ∀ A2, Keep (two w.heap.size) A1 A2 → W P (some l) n body (roundQ I Ix (w.heap.size + 2) C (pre ++ [x]) A2) σ1 [] A2) (fun _ _ _ _ => False))
        (setPs σ (ps.zip args).toList) [] A)
    (hdone : ∀ w', w.heap.size + 2 ≤ w'.heap.size → I xs w' → w'.heap[w.heap.size]? = some (.deferred (some [])) → Q .normal σ ({ target := .collected w.heap.size, args := #[] } :: ds) w')
    (hstop : ∀ c pre x suf w', w.heap.size + 2 ≤ w'.heap.size → xs = pre ++ x :: suf → Ix c (pre ++ [x]) w' → w'.heap[w.heap.size]? = some (.deferred (some [])) →
      W P Option.none n c Q σ ({ target := .collected w.heap.size, args := #[] } :: ds) w') :
    W P Option.none n (.rangeFunc f ps assign body) Q σ ds w := 
  W_rangeG hf hc hit.toG hW0 hn0 hCn henc I Ix (fun pre A B hi hk => hI pre A B hi (hk.mono (fun b _ h => by unfold span at h; unfold two; omega))) (fun c pre A B hi hk => hIx c pre A B hi (hk.mono (fun b _ h => by unfold span at h; unfold two; omega))) h0 (fun l pre x A args ⟨suf, e⟩ => hround l pre x suf A args e) (fun ys w' e => by subst e; exact hdone w')
    (fun c pre x w' hs ⟨suf, e⟩ => hstop c pre x suf w' hs e)

theorem ret_mark {P : Program} {fn : Func} {R : Value → World → Prop} {e : Exit} {σ : Sto} {w : World} (he : e = .normal ∨ e = .ret) {t : Tmp} {m D : Nat} {v : Value} (hl : fn.results.toList = [.tmp t]) (hm : fn.ntmps = m)
    (hv : ev m σ (.tmp t) = v) (hD : w.heap[D]? = some (.deferred (some []))) (h : ∀ w', Keep (fun b => b = D) w w' → w'.heap.size = w.heap.size → R v w') :
    retQ P fn R e σ [{ target := .collected D, args := #[] }] w := by
  refine ⟨he, ⟨D, rfl, hD, trivial⟩, [v], ?_, h _ (keep_put rfl) (by simp [shut])⟩
  rw [hl, hm, ← hv]; rfl
theorem ret_mark2 {P : Program} {fn : Func} {R : Value → World → Prop} {e : Exit} {σ : Sto} {w : World} (he : e = .normal ∨ e = .ret) {t t' : Tmp} {m D : Nat} {v v' : Value} (hl : fn.results.toList = [.tmp t, .tmp t']) (hm : fn.ntmps = m)
    (hv : ev m σ (.tmp t) = v) (hv' : ev m σ (.tmp t') = v') (hD : w.heap[D]? = some (.deferred (some []))) (h : ∀ w', Keep (fun b => b = D) w w' → w'.heap.size = w.heap.size → R (.tuple #[v, v']) w') :
    retQ P fn R e σ [{ target := .collected D, args := #[] }] w := by
  refine ⟨he, ⟨D, rfl, hD, trivial⟩, [v, v'], ?_, h _ (keep_put rfl) (by simp [shut])⟩
  rw [hl, hm, ← hv, ← hv']; rfl

end Go.Proofs.Ytciadbhnodgpgaa
