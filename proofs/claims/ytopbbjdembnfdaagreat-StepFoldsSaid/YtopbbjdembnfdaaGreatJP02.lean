/-
  Texts of a proof, joined: K7, KD, K8, K9, K10, K11, C1, CP, Q0int, K12, C2, C3, T0, S1.
  Conditions: none.
-/
import Derived.Test.YtopbbjdembnfdaaGreatJP01
import Derived.Test.YtopbbjdembnfdaaGreatJP00
import Derived.Laws.OwnMore
import Derived.Laws.MakeOwn
import Derived.MapFrom
import Derived.Maps.RangeRun
import Derived.Maps.Range
import Derived.Lib.Bytealg
set_option linter.unusedVariables false
set_option linter.unusedSimpArgs false
set_option linter.defProp false
set_option linter.unnecessarySimpa false
namespace Go.Proofs.YtopbbjdembnfdaaGreat
open Go
structure KeepB (n0 : Nat) (C : Nat → Prop) (w w' : World) : Prop where
 os : w'.os = w.os
 tape : w'.tape = w.tape
 output : w'.output = w.output
 size : w.heap.size ≤ w'.heap.size
 block : ∀ b, b < n0 → ¬ C b → w'.heap[b]? = w.heap[b]?
 drawn : w.drawn ≤ w'.drawn
theorem KeepB.refl (n0 : Nat) (C : Nat → Prop) (w : World) : KeepB n0 C w w := ⟨rfl, rfl, rfl, Nat.le_refl _, fun _ _ _ => rfl, Nat.le_refl _⟩
theorem KeepB.trans {n0 : Nat} {C : Nat → Prop} {a b c : World} (h : KeepB n0 C a b) (k : KeepB n0 C b c) : KeepB n0 C a c :=
 ⟨k.os.trans h.os, k.tape.trans h.tape, k.output.trans h.output, Nat.le_trans h.size k.size, fun i hi hc => (k.block i hi hc).trans (h.block i hi hc), Nat.le_trans h.drawn k.drawn⟩
theorem Keep.toB {n0 : Nat} {C S : Nat → Prop} {a b : World} (h : Keep S a b) (hn : n0 ≤ a.heap.size) (hS : ∀ i, i < n0 → S i → C i) : KeepB n0 C a b :=
 ⟨h.os, h.tape, h.output, h.size, fun i hi hc => h.block i (by omega) (fun hs => hc (hS i hi hs)), h.drawn⟩
theorem KeepB.mono {n0 n1 : Nat} {C D : Nat → Prop} {a b : World} (h : KeepB n0 C a b) (hn : n1 ≤ n0) (hC : ∀ i, i < n1 → C i → D i) : KeepB n1 D a b :=
 ⟨h.os, h.tape, h.output, h.size, fun i hi hd => h.block i (by omega) (fun hc => hd (hC i hi hc)), h.drawn⟩
theorem KeepB.keep {C : Nat → Prop} {a b : World} (h : KeepB a.heap.size C a b) : Keep C a b := ⟨h.os, h.tape, h.output, h.size, h.block, h.drawn⟩
def Yld (P : Program) (l : Nat) (args : Array Value) (w : World) (R : Value → World → Prop) : Prop := callV P (.func (.yield l) #[] #[]) args w R
theorem Yld.mono {P : Program} {l : Nat} {args : Array Value} {w : World} {R R' : Value → World → Prop} (h : Yld P l args w R) (hr : ∀ v w, R v w → R' v w) : Yld P l args w R' := opR_mono hr h
def span (n k : Nat) : Nat → Prop := fun b => n ≤ b ∧ b < n + k
def IterG {α : Type} (P : Program) (g : FuncId) (cap : Array Value) (W0 : World) (n0 : Nat) (C : Nat → Prop) (own : Nat) (Pre : List α → α → Prop) (Full : List α → Prop) (enc : α → World → Array Value → Prop) : Prop :=
 ∀ (l : Nat) (J Jx : List α → World → Prop) (W : World), Ext W0 W → n0 ≤ W.heap.size →
  (∀ pre A B, J pre A → Keep (span W.heap.size own) A B → J pre B) → (∀ pre A B, Jx pre A → Keep (span W.heap.size own) A B → Jx pre B) →
  (∀ pre x A args, Pre pre x → J pre A → W.heap.size + own ≤ A.heap.size → KeepB n0 C W A → enc x A args → Yld P l args A (fun v B =>
   (v = .bool true ∧ J (pre ++ [x]) B ∧ KeepB n0 C A B ∧ ∀ b, span W.heap.size own b → B.heap[b]? = A.heap[b]?) ∨ (v = .bool false ∧ Jx (pre ++ [x]) B))) →
  J [] W → Fn P g (#[.func (.yield l) #[] #[]] ++ cap) W (fun _ B => (∃ xs, Full xs ∧ J xs B) ∨ ∃ pre x, Pre pre x ∧ Jx (pre ++ [x]) B)
def Iter {α : Type} (P : Program) (g : FuncId) (cap : Array Value) (W0 : World) (n0 : Nat) (C : Nat → Prop) (xs : List α) (enc : α → World → Array Value → Prop) : Prop :=
 ∀ (l : Nat) (J Jx : List α → World → Prop) (W : World), Ext W0 W → n0 ≤ W.heap.size →
  (∀ pre A B, J pre A → Ext A B → J pre B) → (∀ pre A B, Jx pre A → Ext A B → Jx pre B) →
  (∀ pre x suf A args, xs = pre ++ x :: suf → J pre A → KeepB n0 C W A → enc x A args → Yld P l args A (fun v B =>
   (v = .bool true ∧ J (pre ++ [x]) B ∧ KeepB n0 C A B) ∨ (v = .bool false ∧ Jx (pre ++ [x]) B))) →
  J [] W → Fn P g (#[.func (.yield l) #[] #[]] ++ cap) W (fun _ B => J xs B ∨ ∃ pre x suf, xs = pre ++ x :: suf ∧ Jx (pre ++ [x]) B)
theorem Iter.toG {α : Type} {P : Program} {g : FuncId} {cap : Array Value} {W0 : World} {n0 : Nat} {C : Nat → Prop} {xs : List α} {enc : α → World → Array Value → Prop} (h : Iter P g cap W0 n0 C xs enc) :
  IterG P g cap W0 n0 C 0 (fun pre x => ∃ suf, xs = pre ++ x :: suf) (fun l => l = xs) enc := fun l J Jx W h1 h2 h3 h4 h5 h6 =>
 Fn.mono (h l J Jx W h1 h2 (fun pre A B hj hk => h3 pre A B hj (hk.mono (fun _ _ h => h.elim))) (fun pre A B hj hk => h4 pre A B hj (hk.mono (fun _ _ h => h.elim)))
  (fun pre x suf A args e hj hk he => Yld.mono (h5 pre x A args ⟨suf, e⟩ hj (by have := hk.size; omega) hk he) (fun v B hr => by
   rcases hr with ⟨h1, h2, h3, _⟩ | hr
   ·exact .inl ⟨h1, h2, h3⟩
   ·exact .inr hr)) h6) (fun v B hr => by
  rcases hr with hr | ⟨pre, x, suf, e, hr⟩
  ·exact .inl ⟨xs, rfl, hr⟩
  ·exact .inr ⟨pre, x, ⟨suf, e⟩, hr⟩)
def setPs (σ : Sto) : List (Tmp × Value) → Sto
 | [] => σ
 | (t, v) :: l => setPs (upd σ t v) l
theorem foldl_setPs (n : Nat) (ds : List Deferred) : ∀ (l : List (Tmp × Value)) (σ : Sto), l.foldl (fun t (p, v) => t.setIfInBounds p v) (act n σ ds).tmps = (act n (setPs σ l) ds).tmps
 | [], _ => rfl
 | (p, v) :: l, σ => by
  simp only [List.foldl_cons, act_set]
  exact foldl_setPs n ds l (upd σ p v)
theorem setPs_nil (σ : Sto) : setPs σ [] = σ := nr rfl
theorem setPs_cons (σ : Sto) (t : Tmp) (v : Value) (l : List (Tmp × Value)) : setPs σ ((t, v) :: l) = setPs (upd σ t v) l := nr rfl
theorem zip_l (l : List Tmp) (m : List Value) : (l.toArray.zip m.toArray).toList = l.zip m := by simp
theorem zip_cons (a : Tmp) (b : Value) (l : List Tmp) (m : List Value) : (a :: l).zip (b :: m) = (a, b) :: l.zip m := nr rfl
theorem zip_nil : ([] : List Tmp).zip ([] : List Value) = [] := nr rfl
attribute [go_sem] setPs_nil setPs_cons zip_l zip_cons zip_nil
def two (D : Nat) : Nat → Prop := fun b => b = D ∨ b = D + 1
theorem keep_put {w : World} {r : Nat} {o : Obj} {S : Nat → Prop} (hr : S r) : Keep S w (w.putObj r o) :=
 ⟨rfl, rfl, rfl, by simp, fun b _ hb => World.putObj_heap_other (fun e => hb (e ▸ hr)), Nat.le_refl _⟩
def roundQ {α : Type} (I : List α → World → Prop) (Ix : Code → List α → World → Prop) (n2 : Nat) (C : Nat → Prop) (pre' : List α) (A : World) : Post
 | .normal, _, _, B => I pre' B ∧ KeepB n2 C A B
 | .ret, _, _, B => Ix .ret pre' B ∧ KeepB n2 C A B
 | .exit id, _, _, B => Ix (.exit id) pre' B ∧ KeepB n2 C A B
 | .goto t, _, _, B => Ix (.goto t) pre' B ∧ KeepB n2 C A B
 | _, _, _, _ => False
def recOf (fn : FuncId) (tmps : Array Value) (ps : Array Tmp) (assign body : Code) (D : Nat) (st : LoopState) (pe : Option Code) : Loop :=
 {state := st, pending := pe, fn, tmps, params := ps, assign, body, defers := D }
theorem W_rangeG {α : Type} {P : Program} {n : Nat} {f : Operand} {ps : Array Tmp} {assign body : Code} {Q : Post} {σ : Sto} {ds : List Deferred} {w : World}
  {g : FuncId} {cap : Array Value} {W0 : World} {n0 : Nat} {C : Nat → Prop} {own : Nat} {Pre : List α → α → Prop} {Full : List α → Prop} {enc : α → World → Array Value → Prop}
  (hf : ev n σ f = .func (.func g) #[] cap) (hc : callable P g = true) (hit : IterG P g cap W0 n0 C own Pre Full enc) (hW0 : Ext W0 w) (hn0 : n0 ≤ w.heap.size) (hCn : ∀ b, C b → b < w.heap.size)
  (henc : ∀ x A args, enc x A args → args.size = ps.size)
  (I : List α → World → Prop) (Ix : Code → List α → World → Prop)
  (hI : ∀ pre A B, I pre A → Keep (span w.heap.size (2 + own)) A B → I pre B)
  (hIx : ∀ c pre A B, Ix c pre A → Keep (span w.heap.size (2 + own)) A B → Ix c pre B)
  (h0 : I [] w)
  (hround : ∀ (l : Nat) (pre : List α) (x : α) (A : World) (args : Array Value), Pre pre x → w.heap.size + 2 + own ≤ A.heap.size → I pre A → enc x A args →
   W P (some l) n assign (thenQ (fun σ1 ds1 A1 => ds1 = [] ∧ KeepB (w.heap.size + 2 + own) C A A1 ∧ ∀ A2, Keep (two w.heap.size) A1 A2 → W P (some l) n body (roundQ I Ix (w.heap.size + 2 + own) C (pre ++ [x]) A2) σ1 [] A2) (fun _ _ _ _ => False))
    (setPs σ (ps.zip args).toList) [] A)
  (hdone : ∀ xs w', Full xs → w.heap.size + 2 ≤ w'.heap.size → I xs w' → w'.heap[w.heap.size]? = some (.deferred (some [])) → Q .normal σ ({ target := .collected w.heap.size, args := #[] } :: ds) w')
  (hstop : ∀ c pre x w', w.heap.size + 2 ≤ w'.heap.size → Pre pre x → Ix c (pre ++ [x]) w' → w'.heap[w.heap.size]? = some (.deferred (some [])) →
   W P Option.none n c Q σ ({ target := .collected w.heap.size, args := #[] } :: ds) w') :
  W P Option.none n (.rangeFunc f ps assign body) Q σ ds w := by
 refine wpIn_rangeFunc ?_
 intro fn _
 generalize hrec : recOf fn (act n σ ds).tmps ps assign body w.heap.size = rec
 obtain ⟨W1, hW1⟩ : ∃ W1, (w.alloc (.deferred (some []))).alloc (.loop (rec .ready Option.none)) = W1 := ⟨_, rfl⟩
 have hsz1 : W1.heap.size = w.heap.size + 2 := by rw [← hW1]; simp
 have hL1 : W1.heap[w.heap.size + 1]? = some (.loop (rec .ready Option.none)) := by
  rw [← hW1]; have := World.alloc_heap_new (w.alloc (.deferred (some []))) (.loop (rec .ready Option.none)); rwa [World.size_alloc] at this
 have hK1 : W1.heap[w.heap.size]? = some (.deferred (some [])) := by
  rw [← hW1]; exact (RowKit.Below.heap_alloc _ _ _ (by simp)).trans (World.alloc_heap_new w _)
 have hE1 : Ext w W1 := by rw [← hW1]; exact (Ext.alloc w _).trans (Ext.alloc _ _)
 have hI1 : I [] W1 := hI _ _ _ h0 (hE1.mono (fun _ _ h => h.elim))
 have hl2 : two w.heap.size (w.heap.size + 1) := .inr rfl
 have hl2' : span w.heap.size (2 + own) (w.heap.size + 1) := by unfold span; omega
 refine ⟨w.heap.size + 1, [{ target := .collected w.heap.size, args := #[] }], W1, { target := .fn (.func g) cap, args := #[.func (.yield (w.heap.size + 1)) #[] #[]] }, W1, g,
  #[.func (.yield (w.heap.size + 1)) #[] #[]] ++ cap, W1, ?_, ?_, ?_, ?_, fw_depth, ?_⟩
 ·rw [← hW1, ← hrec]; exact run_enterLoop_outer _ _ _ _ _
 ·simp only [resolve, act_eval, hf]
  simp [Deferred.ofValue, ev]
 ·intro f' hf'; trivial
 ·simp only [invoke]; exact run_callFunc hc
 ·-- the iterator's contract
  have hsp : ∀ {n : Nat} b, b < n → span W1.heap.size own b → span w.heap.size (2 + own) b := fun b _ h => by unfold span at *; omega
  have hCl : ∀ b, two w.heap.size b → ¬ C b := fun b hb hcb => by have := hCn b hcb; rcases hb with rfl | rfl <;> omega
  refine calls_round (CallsIn.mono (hit (w.heap.size + 1)
   (fun pre B => I pre B ∧ w.heap.size + 2 ≤ B.heap.size ∧ B.heap[w.heap.size + 1]? = some (.loop (rec .ready Option.none)) ∧ B.heap[w.heap.size]? = some (.deferred (some [])))
   (fun pre B => ∃ c, Ix c pre B ∧ w.heap.size + 2 ≤ B.heap.size ∧ B.heap[w.heap.size + 1]? = some (.loop (rec .done (some c))) ∧ B.heap[w.heap.size]? = some (.deferred (some [])))
   W1 (hW0.trans hE1) (by omega) ?_ ?_ ?_ ⟨hI1, by omega, hL1, hK1⟩) ?_)
  ·rintro pre A B ⟨hi, hs, hl, hk⟩ hAB
   exact ⟨hI _ _ _ hi (hAB.mono hsp), Nat.le_trans hs hAB.size, (hAB.block _ (by omega) (by unfold span; omega)).trans hl, (hAB.block _ (by omega) (by unfold span; omega)).trans hk⟩
  ·rintro pre A B ⟨c, hi, hs, hl, hk⟩ hAB
   exact ⟨c, hIx _ _ _ _ hi (hAB.mono hsp), Nat.le_trans hs hAB.size, (hAB.block _ (by omega) (by unfold span; omega)).trans hl, (hAB.block _ (by omega) (by unfold span; omega)).trans hk⟩
  ·-- one round
   rintro pre x A args hxs ⟨hi, hs, hl, hk⟩ hsA _ hx
   have hy := run_yield (P := P) (args := args) hl (by rw [← hrec]; exact henc x A args hx)
   unfold Yld callV
   dsimp only
   rw [show (#[] ++ args : Array Value) = args from by simp]
   rw [hy, ← hrec]
   dsimp only [recOf, opR]
   refine round_round (r := Option.none) (n := 0) (roundIn_of_wpIn (F := fw Option.none) (n := 0) trivial ?_)
   have hin : (fw Option.none).inRound (w.heap.size + 1) = fw (some (w.heap.size + 1)) := rfl
   rw [hin]
   have hfold : (ps.zip args).foldl (fun t (x : Tmp × Value) => t.setIfInBounds x.1 x.2) (act n σ ds).tmps = (act n (setPs σ (ps.zip args).toList) []).tmps := by
    rw [← Array.foldl_toList]
    exact foldl_setPs n ds _ σ
   have hst : ({ tmps := (ps.zip args).foldl (fun t (x : Tmp × Value) => t.setIfInBounds x.1 x.2) (act n σ ds).tmps, defers := [] } : Act) = act n (setPs σ (ps.zip args).toList) [] := by
    rw [hfold]; rfl
   have hr := hround (w.heap.size + 1) pre x A args hxs (by omega) hi hx
   unfold W at hr
   rw [← hst] at hr
   refine wpIn_mono hr ?_
   rintro e a A1 ⟨σ1, ds1, rfl, hq⟩
   cases e with
   | normal =>
    obtain ⟨rfl, hA1, hbody⟩ := hq
    have hlA1 : A1.heap[w.heap.size + 1]? = some (.loop (rec .ready Option.none)) := (hA1.block _ (by omega) (hCl _ hl2)).trans hl
    have hkA1 : A1.heap[w.heap.size]? = some (.deferred (some [])) := (hA1.block _ (by omega) (hCl _ (.inl rfl))).trans hk
    have hlt1 : w.heap.size + 1 < A1.heap.size := (Array.getElem?_eq_some_iff.1 hlA1).1
    refine ⟨_, run_beginRound hlA1 (by rw [← hrec]; rfl), ?_⟩
    have hb := hbody _ (keep_put (w := A1) (r := w.heap.size + 1) (o := .loop { rec .ready Option.none with state := .busy }) hl2)
    refine wpIn_mono hb ?_
    have hlA2 : (A1.putObj (w.heap.size + 1) (.loop { rec .ready Option.none with state := .busy })).heap[w.heap.size + 1]? = some (.loop { rec .ready Option.none with state := .busy }) := World.putObj_heap_same hlt1
    have hkA2 : (A1.putObj (w.heap.size + 1) (.loop { rec .ready Option.none with state := .busy })).heap[w.heap.size]? = some (.deferred (some [])) := (World.putObj_heap_other (by omega)).trans hkA1
    have fin : ∀ (jump : Option Code) (B : World), KeepB (w.heap.size + 2 + own) C (A1.putObj (w.heap.size + 1) (.loop { rec .ready Option.none with state := .busy })) B →
      (Instr.endRound (w.heap.size + 1) jump).run P B = .ok (.bool jump.isNone) (B.putObj (w.heap.size + 1) (.loop (rec (if jump.isNone then .ready else .done) jump))) ∧
      w.heap.size + 2 ≤ (B.putObj (w.heap.size + 1) (.loop (rec (if jump.isNone then .ready else .done) jump))).heap.size ∧
      (B.putObj (w.heap.size + 1) (.loop (rec (if jump.isNone then .ready else .done) jump))).heap[w.heap.size + 1]? = some (.loop (rec (if jump.isNone then .ready else .done) jump)) ∧
      (B.putObj (w.heap.size + 1) (.loop (rec (if jump.isNone then .ready else .done) jump))).heap[w.heap.size]? = some (.deferred (some [])) ∧
      KeepB n0 C A (B.putObj (w.heap.size + 1) (.loop (rec (if jump.isNone then .ready else .done) jump))) ∧
      ∀ b, span W1.heap.size own b → (B.putObj (w.heap.size + 1) (.loop (rec (if jump.isNone then .ready else .done) jump))).heap[b]? = A.heap[b]? := by
     intro jump B hB
     have hlB := (hB.block _ (by omega) (hCl _ hl2)).trans hlA2
     have hkB := (hB.block _ (by omega) (hCl _ (.inl rfl))).trans hkA2
     have hltB : w.heap.size + 1 < B.heap.size := (Array.getElem?_eq_some_iff.1 hlB).1
     refine ⟨?_, by simp; omega, World.putObj_heap_same hltB, (World.putObj_heap_other (by omega)).trans hkB, ?_, ?_⟩
     ·have := run_endRound (P := P) jump hlB
      rw [← hrec] at this ⊢
      exact this
     ·refine (hA1.mono (by omega) (fun _ _ h => h)).trans (KeepB.trans ?_ ((hB.mono (by omega) (fun _ _ h => h)).trans ?_))
      ·exact (keep_put (S := two w.heap.size) hl2).toB (by omega) (fun i hi hs => by rcases hs with rfl | rfl <;> omega)
      ·exact (keep_put (S := two w.heap.size) hl2).toB (by omega) (fun i hi hs => by rcases hs with rfl | rfl <;> omega)
     ·intro b hb
      unfold span at hb
      have hCb : ¬ C b := fun h => by have := hCn b h; omega
      exact (World.putObj_heap_other (by omega)).trans ((hB.block b (by omega) hCb).trans ((World.putObj_heap_other (by omega)).trans (hA1.block b (by omega) hCb)))
    rintro e a B ⟨σ2, ds2, rfl, hq⟩
    cases e with
    | normal =>
     obtain ⟨hi', hB⟩ := hq
     obtain ⟨h1, h2, h3, h4, h5, h6⟩ := fin Option.none B hB
     exact ⟨_, _, h1, _, rfl, .inl ⟨rfl, ⟨hI _ _ _ hi' (keep_put hl2'), h2, h3.trans (by rw [← hrec]; rfl), h4⟩, h5, h6⟩⟩
    | ret =>
     obtain ⟨hi', hB⟩ := hq
     obtain ⟨h1, h2, h3, h4, h5, _⟩ := fin (some .ret) B hB
     exact ⟨_, _, h1, _, rfl, .inr ⟨rfl, _, hIx _ _ _ _ hi' (keep_put hl2'), h2, h3.trans (by rw [← hrec]; rfl), h4⟩⟩
    | exit id =>
     obtain ⟨hi', hB⟩ := hq
     obtain ⟨h1, h2, h3, h4, h5, _⟩ := fin (some (.exit id)) B hB
     exact ⟨_, _, h1, _, rfl, .inr ⟨rfl, _, hIx _ _ _ _ hi' (keep_put hl2'), h2, h3.trans (by rw [← hrec]; rfl), h4⟩⟩
    | goto t =>
     obtain ⟨hi', hB⟩ := hq
     obtain ⟨h1, h2, h3, h4, h5, _⟩ := fin (some (.goto t)) B hB
     exact ⟨_, _, h1, _, rfl, .inr ⟨rfl, _, hIx _ _ _ _ hi' (keep_put hl2'), h2, h3.trans (by rw [← hrec]; rfl), h4⟩⟩
    | panic c => exact hq.elim
    | outgrown => exact hq.elim
   | ret => exact hq.elim
   | exit id => exact hq.elim
   | goto t => exact hq.elim
   | panic c => exact hq.elim
   | outgrown => exact hq.elim
  ·rintro e B ⟨v, rfl, h⟩
   rcases h with ⟨xs, hfull, hi, hs, hl, hk⟩ | ⟨pre, x, hxs, c, hi, hs, hl, hk⟩
   ·have hend := run_endLoop (P := P) hl (by rw [← hrec]; simp [recOf])
    have hp : (rec LoopState.ready Option.none).pending = Option.none := by rw [← hrec]; rfl
    rw [hp] at hend
    refine ⟨Option.none, _, hend, ?_⟩
    exact ⟨σ, _, rfl, hdone xs _ hfull (by simp; omega) (hI _ _ _ hi (keep_put hl2')) ((World.putObj_heap_other (by omega)).trans hk)⟩
   ·have hend := run_endLoop (P := P) hl (by rw [← hrec]; simp [recOf])
    have hp : (rec LoopState.done (some c)).pending = some c := by rw [← hrec]; rfl
    rw [hp] at hend
    refine ⟨some c, _, hend, ?_⟩
    exact hstop c pre x _ (by simp; omega) hxs (hIx _ _ _ _ hi (keep_put hl2')) ((World.putObj_heap_other (by omega)).trans hk)
theorem W_range {α : Type} {P : Program} {n : Nat} {f : Operand} {ps : Array Tmp} {assign body : Code} {Q : Post} {σ : Sto} {ds : List Deferred} {w : World}
  {g : FuncId} {cap : Array Value} {W0 : World} {n0 : Nat} {C : Nat → Prop} {xs : List α} {enc : α → World → Array Value → Prop}
  (hf : ev n σ f = .func (.func g) #[] cap) (hc : callable P g = true) (hit : Iter P g cap W0 n0 C xs enc) (hW0 : Ext W0 w) (hn0 : n0 ≤ w.heap.size) (hCn : ∀ b, C b → b < w.heap.size)
  (henc : ∀ x A args, enc x A args → args.size = ps.size)
  (I : List α → World → Prop) (Ix : Code → List α → World → Prop)
  (hI : ∀ pre A B, I pre A → Keep (two w.heap.size) A B → I pre B)
  (hIx : ∀ c pre A B, Ix c pre A → Keep (two w.heap.size) A B → Ix c pre B)
  (h0 : I [] w)
  (hround : ∀ (l : Nat) (pre : List α) (x : α) (suf : List α) (A : World) (args : Array Value), xs = pre ++ x :: suf → w.heap.size + 2 ≤ A.heap.size → I pre A → enc x A args →
   W P (some l) n assign (thenQ (fun σ1 ds1 A1 => ds1 = [] ∧ KeepB (w.heap.size + 2) C A A1 ∧ ∀ A2, Keep (two w.heap.size) A1 A2 → W P (some l) n body (roundQ I Ix (w.heap.size + 2) C (pre ++ [x]) A2) σ1 [] A2) (fun _ _ _ _ => False))
    (setPs σ (ps.zip args).toList) [] A)
  (hdone : ∀ w', w.heap.size + 2 ≤ w'.heap.size → I xs w' → w'.heap[w.heap.size]? = some (.deferred (some [])) → Q .normal σ ({ target := .collected w.heap.size, args := #[] } :: ds) w')
  (hstop : ∀ c pre x suf w', w.heap.size + 2 ≤ w'.heap.size → xs = pre ++ x :: suf → Ix c (pre ++ [x]) w' → w'.heap[w.heap.size]? = some (.deferred (some [])) →
   W P Option.none n c Q σ ({ target := .collected w.heap.size, args := #[] } :: ds) w') :
  W P Option.none n (.rangeFunc f ps assign body) Q σ ds w := 
 W_rangeG hf hc hit.toG hW0 hn0 hCn henc I Ix (fun pre A B hi hk => hI pre A B hi (hk.mono (fun b _ h => by unfold span at h; unfold two; omega))) (fun c pre A B hi hk => hIx c pre A B hi (hk.mono (fun b _ h => by unfold span at h; unfold two; omega))) h0 (fun l pre x A args ⟨suf, e⟩ => hround l pre x suf A args e) (fun ys w' e => by subst e; exact hdone w')
  (fun c pre x w' hs ⟨suf, e⟩ => hstop c pre x suf w' hs e)
theorem ret_mark {P : Program} {fn : Func} {R : Value → World → Prop} {e : Exit} {σ : Sto} {w : World} (he : e = .normal ∨ e = .ret) {t : Tmp} {m D : Nat} {v : Value} (hl : fn.results.toList = [.tmp t]) (hm : fn.ntmps = m)
  (hv : ev m σ (.tmp t) = v) (hD : w.heap[D]? = some (.deferred (some []))) (h : ∀ w', Keep (fun b => b = D) w w' → w'.heap.size = w.heap.size → R v w') :
  retQ P fn R e σ [{ target := .collected D, args := #[] }] w := by
 refine ⟨he, ⟨D, rfl, hD, trivial⟩, [v], ?_, h _ (keep_put rfl) (by simp [shut])⟩
 rw [hl, hm, ← hv]; rfl
theorem ret_mark2 {P : Program} {fn : Func} {R : Value → World → Prop} {e : Exit} {σ : Sto} {w : World} (he : e = .normal ∨ e = .ret) {t t' : Tmp} {m D : Nat} {v v' : Value} (hl : fn.results.toList = [.tmp t, .tmp t']) (hm : fn.ntmps = m)
  (hv : ev m σ (.tmp t) = v) (hv' : ev m σ (.tmp t') = v') (hD : w.heap[D]? = some (.deferred (some []))) (h : ∀ w', Keep (fun b => b = D) w w' → w'.heap.size = w.heap.size → R (.tuple #[v, v']) w') :
  retQ P fn R e σ [{ target := .collected D, args := #[] }] w := by
 refine ⟨he, ⟨D, rfl, hD, trivial⟩, [v, v'], ?_, h _ (keep_put rfl) (by simp [shut])⟩
 rw [hl, hm, ← hv, ← hv']; rfl
theorem ask_drawn {α : Type} : ∀ (a : Ask α) (w : World), w.drawn ≤ (w.ask a).2.drawn
 | .done _, w => Nat.le_refl _
 | .ask what range k, w => by
  unfold World.ask
  dsimp only
  split
  ·exact ask_drawn _ _
  ·exact Nat.le_trans (Nat.le_succ _) (ask_drawn (k _) { w with drawn := w.drawn + 1 })
theorem sys_drawn (w : World) (c : Sys) : w.drawn ≤ (w.sys c).2.drawn := by
 have h := ask_drawn (Kernel.perform c w.os) w
 unfold World.sys
 split
 ·exact Nat.le_refl _
 ·rename_i heq; rw [heq] at h; exact h
theorem viewStore_drawn {p : Program} {w w' : World} {at_ : Addr} {u : TypeId} {k : Addr} {v : Value} {b : Bool} {l : List Addr} (h : w.viewStore p at_ u k v b = .ok (w', l)) : w'.drawn = w.drawn := by
 unfold World.viewStore at h
 simp only [bind, Except.bind, pure, Except.pure, throw, throwThe, MonadExceptOf.throw] at h
 repeat' split at h
 all_goals first
  | (cases h; done)
  | (cases h; rfl)
theorem farStore_drawn {p : Program} {w w' : World} {a : Addr} {v : Value} {b : Bool} {l : List Addr} (h : w.farStore p a v b = .ok (w', l)) : w'.drawn = w.drawn := by
 unfold World.farStore at h
 split at h
 ·split at h
  ·rename_i r hr
   cases h
   exact viewStore_drawn hr
  ·cases h
 ·cases h
theorem run_drawn {α : Type} {P : Program} : ∀ (s : Sem α) (w : World) (v : α) (w' : World), s.run P w = .ok v w' → w.drawn ≤ w'.drawn
 | .pure a, w, v, w', h => by simp only [Sem.run] at h; cases h; exact Nat.le_refl _
 | .load m a k, w, v, w', h => by
  simp only [Sem.run] at h
  split at h
  ·exact run_drawn _ _ _ _ h
  ·split at h
   ·exact run_drawn _ _ _ _ h
   ·cases h
 | .store m a x k, w, v, w', h => by
  have hgo : (match w.cell? a with
   | some _ => if w.frozen? a then Result.halt (.unsupported (.unsafePointer "a write to bytes that a string shares")) w else k.run P (w.setCell a x)
   | Option.none => match w.farStore P a x (m == .atomic) with
    | .ok (w, _) => k.run P w
    | .error h => .halt h w) = Result.ok v w' → w.drawn ≤ w'.drawn := fun h => by
   split at h
   ·split at h
    ·cases h
    ·have := run_drawn k _ _ _ h; exact this
   ·split at h
    ·rename_i hf
     have := farStore_drawn hf
     have h2 := run_drawn k _ _ _ h
     omega
    ·cases h
  cases x <;> first | (simp only [Sem.run] at h; cases h; done) | (simp only [Sem.run] at h; exact hgo h)
 | .new o k, w, v, w', h => by simp only [Sem.run] at h; exact run_drawn (k _) { w with heap := w.heap.push o } _ _ h
 | .shape r k, w, v, w', h => by simp only [Sem.run] at h; exact run_drawn _ _ _ _ h
 | .freeze a n k, w, v, w', h => by
  simp only [Sem.run] at h
  have := run_drawn k _ _ _ h
  have e : (w.freeze a n).drawn = w.drawn := by unfold World.freeze; split <;> rfl
  rwa [e] at this
 | .frozen a k, w, v, w', h => by simp only [Sem.run] at h; exact run_drawn _ _ _ _ h
 | .getObj r k, w, v, w', h => by
  simp only [Sem.run] at h
  split at h
  ·cases h
  ·exact run_drawn _ _ _ _ h
  ·cases h
 | .setObj r o k, w, v, w', h => by
  simp only [Sem.run] at h
  split at h
  ·cases h
  ·exact run_drawn k { w with heap := w.heap.setIfInBounds r o } _ _ h
  ·cases h
 | .choose q k, w, v, w', h => by
  simp only [Sem.run] at h
  split at h
  ·exact run_drawn _ _ _ _ h
  ·exact Nat.le_trans (Nat.le_succ _) (run_drawn (k _) { w with drawn := w.drawn + 1 } _ _ h)
 | .sys c k, w, v, w', h => by
  simp only [Sem.run] at h
  exact Nat.le_trans (sys_drawn w c) (run_drawn _ _ _ _ h)
 | .program k, w, v, w', h => by simp only [Sem.run] at h; exact run_drawn _ _ _ _ h
 | .mark m k, w, v, w', h => by simp only [Sem.run] at h; exact run_drawn k _ _ _ h
 | .halt h0, w, v, w', h => by simp only [Sem.run] at h; cases h
def byteV (c : UInt8) : Value := .int .u8 c.toNat
section
variable {P : Program} {d : Option Tmp} {ty : TypeId} {ps : String} {af : Array Edge} {g : Option (Nat × Bool)} {ρ : Operand → Value} {w : World} {K : Value → World → Prop}
theorem grown_keep {w w' : World} {row : Option Nat} (h : w.grownBy w' row) (hd : w.drawn ≤ w'.drawn) : Keep (fun b => some b = row) w w' := ⟨h.os, h.tape, h.output, h.size, h.block, hd⟩
theorem cell_of {b : Nat} {cur : Array Value} {e : TypeId} {fr : Nat × Nat} (h : w.heap[b]? = some (.cells cur e fr)) (j : Nat) : w.cell? ⟨b, j, Option.none⟩ = cur[j]? := by
 simp [World.cell?, h]
theorem frozen_of {b : Nat} {cur : Array Value} {e : TypeId} {fr : Nat × Nat} (h : w.heap[b]? = some (.cells cur e fr)) (j : Nat) : w.frozen? ⟨b, j, Option.none⟩ = (decide (fr.1 ≤ j) && decide (j < fr.2)) := by
 obtain ⟨lo, hi⟩ := fr; simp [World.frozen?, h]
theorem set_keep (w : World) (b j : Nat) (v : Value) : Keep (fun i => i = b) w (w.setCell ⟨b, j, Option.none⟩ v) :=
 ⟨rfl, rfl, rfl, by simp, fun i _ hne => RowKit.Below.heap_setCell w _ v i hne, Nat.le_refl _⟩
theorem set_block {b j : Nat} {v : Value} {cur : Array Value} {e : TypeId} {fr : Nat × Nat} (h : w.heap[b]? = some (.cells cur e fr)) :
  (w.setCell ⟨b, j, Option.none⟩ v).heap[b]? = some (.cells (cur.setIfInBounds j v) e fr) := by
 simp [World.setCell, Array.getElem?_modify, h]
theorem st_one {t : TypeId} {b j : Nat} {v : Value} {cur : Array Value} {e : TypeId} {fr : Nat × Nat} (hs : tyS P t = 1) (hi : (P.info? t).isSome = true) (hv : one v = true)
  (hb : w.heap[b]? = some (.cells cur e fr)) (hj : j < cur.size) (hf : fr.2 ≤ j ∨ j < fr.1)
  (h : ∀ w', w'.heap.size = w.heap.size → w'.heap[b]? = some (.cells (cur.setIfInBounds j v) e fr) → Keep (fun i => i = b) w w' → K undef w') :
  stK P t (.pointer (some ⟨b, j, Option.none⟩)) v w K := by
 have hc : v.cells = #[v] := by cases v <;> first | rfl | (simp [one] at hv)
 refine ⟨by rw [hc, hs]; rfl, hi, w.setCell ⟨b, j, Option.none⟩ v, ?_, h _ (by simp) (set_block hb) (set_keep w b j v)⟩
 rw [hc]
 have h1 : (w.cell? ⟨b, j, Option.none⟩).isSome = true := by rw [cell_of hb]; simp [hj]
 have h2 : w.frozen? ⟨b, j, Option.none⟩ = false := by
  rw [frozen_of hb]
  rcases hf with hf | hf
  ·simp; omega
  ·simp; omega
 simp [stC, addr_add, hv, h1, h2]
theorem new_block (w : World) (o : Obj) : (w.alloc o).heap[w.heap.size]? = some o := World.alloc_heap_new w o
theorem new_size (w : World) (o : Obj) : (w.alloc o).heap.size = w.heap.size + 1 := by simp
theorem conv_s2b {s t e : TypeId} {x : Operand} {l : List UInt8} (hs : tyU P s = some .string) (hd : tyU P t = some (.slice e)) (he : tyU P e = some (.int .u8)) (hx : ρ x = vs l)
  (h : ∀ (c : Nat) (cur : Array Value) (w' : World), l.length ≤ c → cur.size = c → cur.toList.take l.length = l.map byteV → Ext w w' → w'.heap.size = w.heap.size + 1 →
   w'.heap[w.heap.size]? = some (.cells cur e (c, c + 1)) → K (.slice (some ⟨w.heap.size, 0, Option.none⟩) l.length c) w') :
  optK (cvD (some .string) (some (.slice e)) (vs l)) w K (opW P ⟨d, .convert s t x, ty, ps, af, g⟩ ρ w K) := by
 have hrun := run_bytes_of_string (P := P) w s t e ⟨l.toArray⟩ hs hd he
 have hsz : (⟨l.toArray⟩ : ByteArray).size = l.length := rfl
 rw [hsz] at hrun
 have hge := grownCap_ge w l.length 0 e
 generalize grownCap w l.length 0 e = c at hrun hge
 have hbs : (bytesRow ⟨l.toArray⟩ c).size = c := by simp [bytesRow, hsz]; omega
 rw [hbs] at hrun
 show opR P K ((do pure (.value (← convert s t (ρ x))) : Sem Next).run P w)
 rw [hx]
 refine opR_val hrun (h c _ _ hge hbs ?_ (Ext.drew_alloc w _) (by simp) (World.alloc_heap_new w.drew _))
 unfold bytesRow
 simp only [Array.toList_append, Array.toList_map]
 rw [List.take_append_of_le_length (by simp), List.take_of_length_le (by simp)]
 rfl
theorem conv_b2s {s t e : TypeId} {x : Operand} {a : Option Addr} {c : Nat} {l : List UInt8} (hs : tyU P s = some (.slice e)) (hd : tyU P t = some .string) (he : tyU P e = some (.int .u8))
  (hx : ρ x = .slice a l.length c) (hl : ∀ j (hj : j < l.length), cellO w (adr a j) = some (byteV l[j])) (h : K (vs l) w) :
  optK (cvD (some (.slice e)) (some .string) (.slice a l.length c)) w K (opW P ⟨d, .convert s t x, ty, ps, af, g⟩ ρ w K) := by
 show opR P K ((do pure (.value (← convert s t (ρ x))) : Sem Next).run P w)
 rw [hx]
 cases a with
 | none =>
  cases l with
  | nil =>
   refine opR_val (v := vs []) (w' := w) ?_ h
   simp [convert, underlying, program, Sem.run, show P.underlying s = _ from hs, show P.underlying t = _ from hd, show P.underlying e = _ from he, Conv.bytesToString]
   rfl
  | cons c l => have := hl 0 (by simp); simp [cellO, adr] at this
 | some a =>
  have := run_convert_bytes_back (P := P) w s t e a c l hs he hd (fun j hj => by
   have := hl j hj
   simpa [cellO, adr, byteV] using this)
  exact opR_val this h
def Src1 (w : World) (u : Value) (m : Nat) (size : Nat) (news : List Value) : Prop :=
 ∃ a c, u = .slice a m c ∧ news.length = m * size ∧ ∀ j (h : j < news.length), cellO w (adr a j) = some news[j]
theorem Src1.of_row {u : Value} {l : List Value} (h : Row w u l) : Src1 w u l.length 1 l := by
 obtain ⟨a, c, rfl, _, hl⟩ := h
 exact ⟨a, c, rfl, by simp, hl⟩
theorem run_callBuiltin {b : Builtin} {s x : Operand} {ts : Array TypeId} {r : Result Value}
  (h : ∀ v w', (Builtin.append_ ts ty #[ρ s, ρ x]).run P w = .ok v w' → K v w') (hr : ∃ v w', (Builtin.append_ ts ty #[ρ s, ρ x]).run P w = .ok v w') :
  opW P ⟨d, .call ⟨.builtin .append, #[s, x], ts⟩, ty, ps, af, g⟩ ρ w K := by
 obtain ⟨v, w', hv⟩ := hr
 simp only [opW, execOp, Sem.run_bind, resolve]
 simp only [Sem.run_pure, Result.andThen_ok, invoke, builtin]
 exact opR_val (s := Builtin.append_ ts ty (Array.map ρ #[s, x])) (by simpa using hv) (h v w' hv)
theorem op_append {B : Nat} {s x : Operand} {t e : TypeId} {inf : TypeInfo} {z : Value} {size bytes : Nat} (ht : tyU P t = some (.slice e)) (hi : P.info? e = some inf) (hz : inf.zero = some z)
  (hsize : inf.size = size) (hby : inf.bytes = bytes) (hzs : z.cells.size = size) (hsz : 0 < size) {v u : Value} (hv : ρ s = v) (hu : ρ x = u) {n m : Nat} {xs news : List Value}
  (hown : w.ownsRow B e size v n xs) (hsrc : Src1 w u m size news) (h1 : ∀ q ∈ news, one q = true) (h63 : n + m ≤ maxLen) (hbytes : (n + m) * bytes ≤ 140737488355328) (hB : B ≤ w.heap.size)
  (h : ∀ v' w', w'.ownsRow B e size v' (n + m) (xs ++ news) → Keep (fun b => some b = v.ownBlock) w w' → ((v' = .slice Option.none 0 0 ↔ v = .slice Option.none 0 0 ∧ m = 0) ∧ ∀ b, some b = v'.ownBlock → some b = v.ownBlock ∨ w.heap.size ≤ b) → K v' w') :
  opW P ⟨d, .call ⟨.builtin .append, #[s, x], #[t, t]⟩, ty, ps, af, g⟩ ρ w K := by
 obtain ⟨a, c, rfl, hl, hc⟩ := hsrc
 have h1' : ∀ q ∈ news, q.oneCell' = true := fun q hq => by
  have := h1 q hq
  cases q <;> first | rfl | (simp [one] at this)
 have key : ∃ v' w', (Builtin.append_ #[t, t] ty #[v, .slice a m c]).run P w = .ok v' w' ∧ w'.ownsRow B e size v' (n + m) (xs ++ news) ∧ w.grownBy w' v.ownBlock ∧
   (v' = .slice Option.none 0 0 ↔ v = .slice Option.none 0 0 ∧ m = 0) := by
  cases a with
  | some a =>
   exact run_append_own (P := P) w B t ty e inf z size bytes ht hi hz hsize hby hzs hsz v n xs hown a m c news hl (fun j q hj => by
    obtain ⟨hlt, rfl⟩ := List.getElem?_eq_some_iff.1 hj
    have := hc j hlt
    simpa [cellO, adr] using this) h1' h63 hbytes hB
  | none =>
   have hn0 : news = [] := by
    cases news with
    | nil => rfl
    | cons q r => have := hc 0 (by simp); simp [cellO, adr] at this
   subst hn0
   have hm0 : m = 0 := by
    rcases Nat.mul_eq_zero.1 hl.symm with h | h
    ·exact h
    ·omega
   subst hm0
   refine ⟨v, w, ?_, by simpa using hown, ⟨rfl, rfl, rfl, Nat.le_refl _, fun _ _ _ => rfl⟩, by simp⟩
   have hs' : inf.size = size := hsize
   rcases hown.2 with ⟨rfl, rfl⟩ | ⟨g, cap, cur, rfl, _, _, hnc, _⟩
   ·simp [Builtin.append_, underlying, program, Sem.run, show P.underlying t = _ from ht, sizeOf, typeInfo, hi, Builtin.lenOf, Builtin.firstCells]
   ·simp [Builtin.append_, underlying, program, Sem.run, show P.underlying t = _ from ht, sizeOf, typeInfo, hi, Builtin.lenOf, Builtin.firstCells, hnc, storeCells]
 obtain ⟨v', w', hr, h2, h3, h4⟩ := key
 refine run_callBuiltin (b := .append) (r := .ok v' w') (fun v1 w1 hr1 => ?_) ⟨v', w', by rw [hv, hu]; exact hr⟩
 rw [hv, hu, hr] at hr1
 cases hr1
 refine h v' w' h2 (grown_keep h3 (run_drawn _ _ _ _ hr)) ⟨h4, fun b hb => ?_⟩
 cases a with
 | none =>
  have : v' = v := by
   have hn0 : news = [] := by
    cases news with
    | nil => rfl
    | cons q r => have := hc 0 (by simp); simp [cellO, adr] at this
   subst hn0
   have hm0 : m = 0 := by
    rcases Nat.mul_eq_zero.1 hl.symm with h | h
    ·exact h
    ·omega
   subst hm0
   have hx := hown.2
   rcases hown.2 with ⟨rfl, rfl⟩ | ⟨g, cap, cur, rfl, _, _, hnc, _⟩
   ·simp [Builtin.append_, underlying, program, Sem.run, show P.underlying t = _ from ht, sizeOf, typeInfo, hi, Builtin.lenOf, Builtin.firstCells] at hr
    exact hr.1.symm
   ·simp [Builtin.append_, underlying, program, Sem.run, show P.underlying t = _ from ht, sizeOf, typeInfo, hi, Builtin.lenOf, Builtin.firstCells, hnc, storeCells] at hr
    exact hr.1.symm
  exact .inl (this ▸ hb)
 | some a =>
  have hnews : ∀ j u, news[j]? = some u → w.cell? (a.add j) = some u := fun j q hj => by
   obtain ⟨hlt, rfl⟩ := List.getElem?_eq_some_iff.1 hj
   have := hc j hlt
   simpa [cellO, adr] using this
  rcases hown.2 with ⟨rfl, rfl⟩ | ⟨g, cap, cur, rfl, hbg, hg, hnc, hcm, hcs, htake⟩
  ·obtain ⟨v2, w2, k1, k2, _⟩ := run_append_own (P := P) w w.heap.size t ty e inf z size bytes ht hi hz hsize hby hzs hsz _ 0 xs (⟨hown.1, .inl ⟨rfl, rfl⟩⟩) a m c news hl hnews h1' h63 hbytes (Nat.le_refl _)
   rw [k1] at hr
   cases hr
   rcases k2.2 with ⟨rfl, _⟩ | ⟨g, cap, cur, rfl, hg, _⟩
   ·cases hb
   ·cases hb; exact .inr hg
  ·by_cases hroom : n + m ≤ cap
   ·obtain ⟨w2, k1, _⟩ := run_append_fits (P := P) w B t ty e inf size ht hi hsize g n cap xs hown a m c news hl hnews h1' hroom
    rw [k1] at hr
    cases hr
    exact .inl hb
   ·have holds : ∀ j u, xs[j]? = some u → w.cell? ((⟨g, 0, Option.none⟩ : Addr).add j) = some u := hown.cells (g := g) rfl
    subst hsize hby
    have k1 := run_append_grow (P := P) w t ty e inf z ht hi hz ⟨g, 0, Option.none⟩ n cap xs hown.1 holds a m c news hl hnews (by omega) (by simp only [maxLen] at h63; omega) (growslice_fits (by omega) hbytes)
    rw [k1] at hr
    cases hr
    cases hb
    exact .inr (Nat.le_refl _)
end
section
variable {P : Program} {d : Option Tmp} {ty : TypeId} {ps : String} {af : Array Edge} {g : Option (Nat × Bool)} {ρ : Operand → Value} {w : World} {K : Value → World → Prop}
theorem Row.of_owns {B : Nat} {e : TypeId} {v : Value} {n : Nat} {xs : List Value} (h : w.ownsRow B e 1 v n xs) : Row w v xs := by
 obtain ⟨hl, h⟩ := h
 rw [Nat.mul_one] at hl
 rcases h with ⟨rfl, rfl⟩ | ⟨g, cap, cur, rfl, _, hg, hn, _, hcs, hx⟩
 ·have : xs = [] := List.length_eq_zero_iff.1 hl
  subst this
  exact ⟨Option.none, 0, rfl, Nat.le_refl _, fun j h => by simp at h⟩
 ·refine ⟨_, _, by rw [hl], by omega, fun j hj => ?_⟩
  rw [adr_some]
  show w.cell? _ = _
  rw [cell_of hg, ← Array.getElem?_toList, Nat.zero_add]
  have : xs[j]? = some xs[j] := List.getElem?_eq_getElem hj
  rw [← this, ← hx, List.getElem?_take, if_pos (by omega)]
def RowB (base : Nat) (w : World) (v : Value) (l : List Value) : Prop := Row w v l ∧ ∀ a n c, v = .slice (some a) n c → base ≤ a.block ∧ a.block < w.heap.size
theorem RowB.of_owns {B : Nat} {e : TypeId} {v : Value} {n : Nat} {xs : List Value} (h : w.ownsRow B e 1 v n xs) : RowB B w v xs := by
 refine ⟨Row.of_owns h, fun a m c hv => ?_⟩
 rcases h.2 with ⟨h1, _⟩ | ⟨g, cap, cur, h1, hg, hb, _⟩
 ·rw [h1] at hv; cases hv
 ·rw [h1] at hv; cases hv; exact ⟨hg, (Array.getElem?_eq_some_iff.1 hb).1⟩
theorem Row.blocks {x : World} {v : Value} {l : List Value} (h : Row w v l) (hb : ∀ a n c, v = .slice (some a) n c → x.heap[a.block]? = w.heap[a.block]?) : Row x v l := by
 obtain ⟨a, c, rfl, hc, hl⟩ := h
 refine ⟨a, c, rfl, hc, fun j hj => ?_⟩
 cases a with
 | none => exact hl j hj
 | some a =>
  have := hb a _ _ rfl
  have h2 := hl j hj
  show x.cell? (a.add j) = _
  have hbl : (a.add j).block = a.block := by unfold Addr.add; split <;> rfl
  rw [World.cell?_of_block (w := w) (by rw [hbl]; exact this)]
  exact h2
theorem op_makeSlice {t e : TypeId} {x y : Operand} {inf : TypeInfo} {z : Value} {n : Nat} (ht : tyU P t = some (.slice e)) (hi : P.info? e = some inf) (hz : inf.zero = some z) (hsize : inf.size = 1)
  (hx : ρ x = vi n) (hy : ρ y = vi n) (hbytes : inf.bytes * n ≤ 281474976710656) (h63 : n ≤ 9223372036854775807) (hz1 : z.cells = #[z])
  (h : K (.slice (some ⟨w.heap.size, 0, Option.none⟩) n n) (w.alloc (.cells (madeCells #[z] n) e))) :
  opW P ⟨d, .makeSlice t x y, ty, ps, af, g⟩ ρ w K := by
 have hb' : (inf.bytes : Int) * (n : Int) ≤ 281474976710656 := by
  have h : ((inf.bytes * n : Nat) : Int) ≤ 281474976710656 := by omega
  rwa [Int.natCast_mul] at h
 have hr := run_make (P := P) w t e inf z ht hi hz .i64 .i64 (n : Int) (n : Int) (by omega) (Int.le_refl _) hb' (by omega)
 simp only [Int.toNat_natCast, hsize, Nat.mul_one, hz1] at hr
 show opR P K _
 refine opR_val (s := Instr.makeSlice t (ρ x) (ρ y)) (by rw [hx, hy]; exact hr) h
theorem set1 {A : Array Value} (h : A.size = 1) (v : Value) : A.setIfInBounds 0 v = #[v] := by
 obtain ⟨l⟩ := A
 match l, h with
 | [x], _ => rfl
theorem bsC_one {t e : TypeId} {z v : Value} (hu : tyU P t = some (.slice e)) (hz : tyZ P e = some z) (hs : tyS P e = 1) (hz1 : z.cells = #[z]) (hv : v.cells = #[v]) :
  bsC P t 1 [(0, v)] = some (e, #[v]) := by
 simp [bsC, hu, hz, hs, hz1, Instr.fill, hv]
 exact set1 (by simp) v
end
abbrev Lab := List UInt8
def MapAt (w : World) (r : Nat) (l : List (Lab × Value)) : Prop :=
 ∃ es clk, w.heap[r]? = some (.map es clk) ∧ es.toList.map (fun e => (e.key, e.val)) = l.map (fun p => (vs p.1, p.2)) ∧ (es.toList.map (·.born)).Pairwise (· ≠ ·) ∧ (∀ e ∈ es.toList, e.born < clk)
theorem MapAt.block {w x : World} {r : Nat} {l : List (Lab × Value)} (h : MapAt w r l) (hb : x.heap[r]? = w.heap[r]?) : MapAt x r l := by
 obtain ⟨es, clk, h1, h2⟩ := h
 exact ⟨es, clk, hb.trans h1, h2⟩
theorem sameNow_vs (a b : Lab) : Instr.sameNow .string (vs a) (vs b) = some (a == b) := by
 simp only [vs, Instr.sameNow, Option.some.injEq]
 rw [Bool.eq_iff_iff, MapKept.bytes_beq, beq_iff_eq]
 constructor
 ·intro h
  have := congrArg (fun x : ByteArray => x.data.toList) h
  simpa using this
 ·rintro rfl; rfl
theorem find_none {key : Lab} : ∀ (es : List MapEntry) (l : List (Lab × Value)) (i : Nat), es.map (fun e => (e.key, e.val)) = l.map (fun p => (vs p.1, p.2)) → l.lookup key = Option.none → Instr.findNow .string (vs key) es i = some Option.none
 | [], [], _, _, _ => rfl
 | [], _ :: _, _, h, _ => by simp at h
 | _ :: _, [], _, h, _ => by simp at h
 | e :: es, (k, v) :: l, i, h, hl => by
  simp only [List.map_cons, List.cons.injEq, Prod.mk.injEq] at h
  obtain ⟨⟨h1, h2⟩, h3⟩ := h
  simp only [List.lookup_cons] at hl
  split at hl
  ·cases hl
  ·rename_i hne
   simp only [Instr.findNow, h1, sameNow_vs, hne]
   exact find_none es l (i + 1) h3 hl
theorem find_some {key : Lab} {v : Value} : ∀ (es : List MapEntry) (l : List (Lab × Value)) (i : Nat), es.map (fun e => (e.key, e.val)) = l.map (fun p => (vs p.1, p.2)) → l.lookup key = some v → ∃ j, Instr.findNow .string (vs key) es i = some (some (j, v))
 | [], [], _, _, h => by simp at h
 | [], _ :: _, _, h, _ => by simp at h
 | _ :: _, [], _, h, _ => by simp at h
 | e :: es, (k, u) :: l, i, h, hl => by
  simp only [List.map_cons, List.cons.injEq, Prod.mk.injEq] at h
  obtain ⟨⟨h1, h2⟩, h3⟩ := h
  simp only [List.lookup_cons] at hl
  split at hl
  ·rename_i heq
   cases hl
   exact ⟨i, by simp only [Instr.findNow, h1, sameNow_vs, heq, h2]⟩
  ·rename_i hne
   simp only [Instr.findNow, h1, sameNow_vs, hne]
   exact find_some es l (i + 1) h3 hl
section
variable {P : Program} {d : Option Tmp} {ty : TypeId} {ps : String} {af : Array Edge} {g : Option (Nat × Bool)} {ρ : Operand → Value} {w : World} {K : Value → World → Prop}
theorem MapAt.lk {r : Nat} {l : List (Lab × Value)} (h : MapAt w r l) {t kt et : TypeId} {z : Value} (ht : tyU P t = some (.map kt et)) (hk : tyU P kt = some .string) (hz : tyZ P et = some z) (key : Lab) :
  lkV P w t (.map (some r)) (vs key) false = some ((l.lookup key).getD z) := by
 obtain ⟨es, clk, h1, h2, _⟩ := h
 unfold lkV
 rw [ht]; simp only [hk, hz, h1]
 cases hl : l.lookup key with
 | none => rw [find_none _ _ 0 h2 hl]; rfl
 | some v => obtain ⟨j, hj⟩ := find_some _ _ 0 h2 hl; rw [hj]; rfl
theorem op_mapUpdate {t kt et : TypeId} {m k x : Operand} {r : Nat} {l : List (Lab × Value)} {key : Lab} {v : Value} (ht : tyU P t = some (.map kt et)) (hk : tyU P kt = some .string)
  (hm : ρ m = .map (some r)) (hkey : ρ k = vs key) (hx : ρ x = v) (hat : MapAt w r l) (hno : l.lookup key = Option.none)
  (h : ∀ w', MapAt w' r (l ++ [(key, v)]) → Keep (fun i => i = r) w w' → w'.heap.size = w.heap.size → K undef w') :
  opW P ⟨d, .mapUpdate t m k x, ty, ps, af, g⟩ ρ w K := by
 obtain ⟨es, clk, h1, h2, h3, h4⟩ := hat
 have hf := find_none es.toList l 0 h2 hno
 have hrun : (Instr.mapUpdate t (.map (some r)) (vs key) v).run P w = .ok () (w.putObj r (.map (es.push { key := vs key, val := v, born := clk }) (clk + 1))) := by
  have hck : ∀ e, (Instr.checkKey e 10000 kt (vs key)).run P w = .ok () w := fun e => checkKey_string hk 9999
  simp [Instr.mapUpdate, run_underlying (show P.underlying t = _ from ht), MapKept.run_getObj_map h1, hck, Instr.findKey, run_underlying (show P.underlying kt = _ from hk), hf, MapKept.run_setObj_map _ h1, Result.andThen]
  rfl
 have hlt : r < w.heap.size := (Array.getElem?_eq_some_iff.1 h1).1
 have hat' : MapAt (w.putObj r (.map (es.push { key := vs key, val := v, born := clk }) (clk + 1))) r (l ++ [(key, v)]) := by
  refine ⟨_, _, World.putObj_heap_same hlt, by simp [h2], ?_, ?_⟩
  ·simp only [Array.toList_push, List.map_append, List.map_cons, List.map_nil, List.pairwise_append]
   refine ⟨h3, by simp, fun a ha b hb => ?_⟩
   simp at hb; subst hb
   obtain ⟨e, he, rfl⟩ := List.mem_map.1 ha
   exact Nat.ne_of_lt (h4 e he)
  ·intro e he
   simp only [Array.toList_push, List.mem_append, List.mem_singleton] at he
   rcases he with he | rfl
   ·exact Nat.lt_succ_of_lt (h4 e he)
   ·exact Nat.lt_succ_self _
 have hfin := h _ hat' (keep_put rfl) (by simp)
 show opR P K ((do Instr.mapUpdate t (ρ m) (ρ k) (ρ x); pure .skip : Sem Next).run P w)
 rw [hm, hkey, hx]
 simp only [Sem.run_bind, hrun, Result.andThen_ok, Sem.run_pure]
 exact hfin
theorem new_map (w : World) : MapAt (w.alloc (.map #[] 0)) w.heap.size [] := ⟨_, _, new_block w _, rfl, by simp, by simp⟩
end
inductive Pln
 | fin
 | run (pl : List (Nat × Bool)) (p : Pln)
 | fork (m : Nat) (is : List Nat) (p : Nat → Pln)
def Pln.len : Pln → Nat
 | .fin => 0
 | .run pl p => pl.length + p.len
 | .fork m _ _ => m + 1
def planPre (ops : Array Oper) (isB : Nat → Bool) : List (Nat × Bool) → Array Bool → Option (Array Bool)
 | [], l => some l
 | (i, true) :: pl, l => if (rdy ops l).contains i && Region.free .any ops l i && !isB i then planPre ops isB pl (l.setIfInBounds i true) else Option.none
 | (i, false) :: pl, l => if rdy ops l == [i] then planPre ops isB pl (l.setIfInBounds i true) else Option.none
def planT (ops : Array Oper) (isB : Nat → Bool) : Pln → Array Bool → Bool
 | .fin, l => (rdy ops l).isEmpty
 | .run pl p, l => match planPre ops isB pl l with | some l' => planT ops isB p l' | Option.none => false
 | .fork m is p, l => (rdy ops l == is) && !is.isEmpty && is.all fun i => (p i).len == m && planT ops isB (p i) (l.setIfInBounds i true)
section
variable {P : Program} {ops : Array Oper} {n : Nat} {isB : Nat → Bool} {K : Sto → World → Prop} {S : Nat → Prop}
theorem anyK_pre (hsel : Region.noSelect ops = true) (hB : waitsB ops isB = true) {f : Nat} {l' : Array Bool} : ∀ (pl : List (Nat × Bool)) (l : Array Bool) (σ : Sto) (w : World), closedL ops l →
  planPre ops isB pl l = some l' → drawW P ops n S isB pl σ w (fun σ' w' => closedL ops l' → anyK P ops n isB K (Keep S w') f l' σ' w') → anyK P ops n isB K (Keep S w) (pl.length + f) l σ w
 | [], l, σ, w, hcl, hp, h => by
  cases hp
  rw [List.length_nil, Nat.zero_add]
  exact h hcl
 | (i, true) :: pl, l, σ, w, hcl, hp, h => by
  unfold planPre at hp
  split at hp
  ·rename_i hc
   simp only [Bool.and_eq_true, Bool.not_eq_true', List.contains_iff_mem] at hc
   obtain ⟨⟨hr, hfree⟩, hni⟩ := hc
   obtain ⟨v, hq, h⟩ := h
   obtain ⟨_, oi, hoi, _⟩ := mem_ready.1 hr
   have hd : dstAt ops i = oi.dst := by simp [dstAt, hoi]
   rw [hd] at h
   have := anyK_first hoi hsel hB hni (pl.length + f) (Keep S w) l σ w hcl (Region.free_spec hoi hfree) hr hq (Keep.refl S w)
    (anyK_pre hsel hB pl _ _ w (closed_set hcl hr) hp h)
   rwa [show ((i, true) :: pl).length + f = (pl.length + f) + 1 from by simp; omega]
  ·cases hp
 | (i, false) :: pl, l, σ, w, hcl, hp, h => by
  unfold planPre at hp
  split at hp
  ·rename_i hr
   rw [beq_iff_eq] at hr
   have hmem : i ∈ rdy ops l := by rw [hr]; exact List.mem_singleton.2 rfl
   rw [show ((i, false) :: pl).length + f = (pl.length + f) + 1 from by simp; omega]
   refine ⟨fun h0 => (by rw [hr] at h0; cases h0), fun j hj => ?_⟩
   rw [hr] at hj
   obtain rfl := List.mem_singleton.1 hj
   refine opAt_mono (fun σ' w' ⟨hor, hk⟩ => ?_) h
   have hrec := anyK_pre hsel hB pl _ σ' w' (closed_set hcl hmem) hp hk
   cases hb : isB j with
   | true => exact .inl ⟨rfl, any0_of_K _ _ _ _ _ hrec⟩
   | false =>
    rw [hb] at hor
    have hkeep := hor.resolve_left (by simp)
    exact .inr ⟨rfl, Keep S w', fun x hx => hkeep.trans hx, Keep.refl S w', hrec⟩
  ·cases hp
def drawTW (P : Program) (ops : Array Oper) (n : Nat) (S : Nat → Prop) (isB : Nat → Bool) (K : Sto → World → Prop) : Pln → Sto → World → Prop
 | .fin, σ, w => K σ w
 | .run pl p, σ, w => drawW P ops n S isB pl σ w (fun σ' w' => drawTW P ops n S isB K p σ' w')
 | .fork _ is p, σ, w => ∀ i ∈ is, opAt P ops n i σ w (fun σ' w' => (isB i = true ∨ Keep S w w') ∧ drawTW P ops n S isB K (p i) σ' w')
theorem drawW_mono {K K' : Sto → World → Prop} (hk : ∀ σ w, K σ w → K' σ w) : ∀ (pl : List (Nat × Bool)) (σ : Sto) (w : World), drawW P ops n S isB pl σ w K → drawW P ops n S isB pl σ w K'
 | [], σ, w, h => hk σ w h
 | (i, true) :: pl, σ, w, ⟨v, h1, h2⟩ => ⟨v, h1, drawW_mono hk pl _ _ h2⟩
 | (i, false) :: pl, σ, w, h => opAt_mono (fun σ' w' ⟨h1, h2⟩ => ⟨h1, drawW_mono hk pl _ _ h2⟩) h
theorem anyK_of_tree (hsel : Region.noSelect ops = true) (hB : waitsB ops isB = true) : ∀ (p : Pln) (l : Array Bool) (σ : Sto) (w : World), closedL ops l →
  planT ops isB p l = true → drawTW P ops n S isB K p σ w → anyK P ops n isB K (Keep S w) p.len l σ w
 | .fin, l, σ, w, _, hp, h => ⟨by simpa [planT] using hp, h⟩
 | .run pl p, l, σ, w, hcl, hp, h => by
  unfold planT at hp
  split at hp
  ·rename_i l' hl'
   exact anyK_pre hsel hB pl l σ w hcl hl' (drawW_mono (fun σ' w' hk hcl' => anyK_of_tree hsel hB p l' σ' w' hcl' hp hk) pl σ w h)
  ·cases hp
 | .fork m is p, l, σ, w, hcl, hp, h => by
  simp only [planT, Bool.and_eq_true, beq_iff_eq, List.all_eq_true, Bool.not_eq_true'] at hp
  obtain ⟨⟨hr, hne⟩, hall⟩ := hp
  refine ⟨fun h0 => (by rw [hr] at h0; subst h0; cases hne), fun j hj => ?_⟩
  have hj' := hj
  rw [hr] at hj'
  obtain ⟨hlen, hpj⟩ := hall j hj'
  refine opAt_mono (fun σ' w' ⟨hor, hk⟩ => ?_) (h j hj')
  have hrec := anyK_of_tree hsel hB (p j) _ σ' w' (closed_set hcl hj) hpj hk
  rw [hlen] at hrec
  cases hb : isB j with
  | true => exact .inl ⟨rfl, any0_of_K _ _ _ _ _ hrec⟩
  | false =>
   rw [hb] at hor
   have hkeep := hor.resolve_left (by simp)
   exact .inr ⟨rfl, Keep S w', fun x hx => hkeep.trans hx, Keep.refl S w', hrec⟩
end
def treeOk (ops : Array Oper) (isB : Nat → Bool) (p : Pln) : Bool :=
 Region.noSelect ops && noDefer ops && waitsB ops isB && decide (p.len = ops.size) && planT ops isB p (Array.replicate ops.size false)
def allL {α : Type} : List α → (α → Prop) → Prop
 | [], _ => True
 | [a], f => f a
 | a :: l, f => f a ∧ allL l f
theorem allL_mem {α : Type} {f : α → Prop} : ∀ {l : List α}, allL l f → ∀ a ∈ l, f a
 | [], _, a, h => by cases h
 | [b], h, a, ha => by rw [List.mem_singleton.1 ha]; exact h
 | b :: c :: l, h, a, ha => by
  rcases List.mem_cons.1 ha with rfl | ha
  ·exact h.1
  ·exact allL_mem h.2 a ha
def drawT (P : Program) (gd : Nat → Option Tmp) (ops : List Oper) (n : Nat) (S : Nat → Prop) (isB : Nat → Bool) : Pln → Sto → World → (Sto → World → Prop) → Prop
 | .fin, σ, w, K => K σ w
 | .run pl p, σ, w, K => drawV P gd ops n S isB pl σ w (fun σ' w' => drawT P gd ops n S isB p σ' w' K)
 | .fork _ is p, σ, w, K => allL is fun i => drawV P gd ops n S isB [(i, false)] σ w (fun σ' w' => drawT P gd ops n S isB (p i) σ' w' K)
section
variable {P : Program} {n : Nat} {S : Nat → Prop} {isB : Nat → Bool} {K : Sto → World → Prop}
theorem drawT_sound {ops : Array Oper} : ∀ (p : Pln) (σ : Sto) (w : World), drawT P (dstL ops.toList) ops.toList n S isB p σ w K → drawTW P ops n S isB K p σ w
 | .fin, _, _, h => h
 | .run pl p, σ, w, h => drawW_mono (fun σ' w' hk => drawT_sound p σ' w' hk) pl σ w (drawV_sound pl σ w h)
 | .fork m is p, σ, w, h => fun i hi => by
  have := drawV_sound _ σ w (allL_mem h i hi)
  exact opAt_mono (fun σ' w' ⟨h1, h2⟩ => ⟨h1, drawT_sound (p i) σ' w' h2⟩) this
variable {r : Option Nat} {Q : Post} {σ : Sto} {ds : List Deferred} {w : World}
theorem W_tree {id : Nat} {ops : Array Oper} (isB : Nat → Bool) (p : Pln) (S : Nat → Prop)
  (hm : P.follows .mixedOrders = true) (hok : treeOk ops isB p = true)
  (h : ∀ (gd : Nat → Option Tmp) (K : Sto → World → Prop) (x : World), gd = dstL ops.toList → Keep S w x → x = w.drew → (∀ σ' w', Q .normal σ' ds w' → K σ' w') → drawT P gd ops.toList n S isB p σ x K) :
  W P r n (.region id ops true) Q σ ds w := by
 simp only [treeOk, Bool.and_eq_true, decide_eq_true_eq] at hok
 obtain ⟨⟨⟨⟨h1, h2⟩, h3⟩, h4⟩, h5⟩ := hok
 refine wpIn_region_any hm ?_
 have := anyK_of_tree (K := fun σ w => Q .normal σ ds w) h1 h3 p _ σ w.drew (closed_start ops) h5 (drawT_sound p σ w.drew (h _ _ _ rfl (Keep.drew S w) rfl (fun _ _ h => h)))
 rw [h4] at this
 exact wpAny_of_any0 h2 (fun σ w hk => ⟨σ, ds, rfl, hk⟩) _ _ _ _ (any0_of_K _ _ _ _ _ this)
variable {gd : Nat → Option Tmp} {ops : List Oper}
theorem drawT_fin : drawT P gd ops n S isB .fin σ w K = K σ w := nr rfl
theorem drawT_run (pl : List (Nat × Bool)) (p : Pln) : drawT P gd ops n S isB (.run pl p) σ w K = drawV P gd ops n S isB pl σ w (fun σ' w' => drawT P gd ops n S isB p σ' w' K) := nr rfl
theorem drawT_fork (m : Nat) (is : List Nat) (p : Nat → Pln) : drawT P gd ops n S isB (.fork m is p) σ w K = allL is fun i => drawV P gd ops n S isB [(i, false)] σ w (fun σ' w' => drawT P gd ops n S isB (p i) σ' w' K) := nr rfl
end
section
variable {α : Type} {f : α → Prop} {a b : α} {l : List α}
theorem allL_one : allL [a] f = f a := nr rfl
theorem allL_more : allL (a :: b :: l) f = (f a ∧ allL (b :: l) f) := nr rfl
end
def above (n : Nat) : Nat → Prop := fun b => n ≤ b
theorem Ext.keep {S : Nat → Prop} {w x : World} (h : Ext w x) : Keep S w x := h.mono (fun _ _ h => h.elim)
attribute [go_sem ↓] drawT_fin drawT_run drawT_fork
set_option maxRecDepth 10000
theorem cell_keepB {n0 : Nat} {C : Nat → Prop} {w x : World} (hk : KeepB n0 C w x) {a : Addr} (hn : a.block < n0) (hC : ¬ C a.block) {v : Value} (h : w.cell? a = some v) : x.cell? a = some v := by
 rw [← h]; exact World.cell?_of_block (w := w) (hk.block a.block hn hC)
theorem cell_ext {w x : World} (hk : Ext w x) {a : Addr} {v : Value} (h : w.cell? a = some v) : x.cell? a = some v := cell_keep hk (fun h => h) h
theorem take_succ' {α : Type} {l : List α} {i : Nat} (h : i < l.length) : l.take (i + 1) = l.take i ++ [l[i]] := by
 rw [List.take_succ_eq_append_getElem h]
theorem split_at {α : Type} {l : List α} {i : Nat} (h : i < l.length) : l = l.take i ++ l[i] :: l.drop (i + 1) := by
 rw [← List.drop_eq_getElem_cons h, List.take_append_drop]
theorem zipIdx_split {α : Type} {l : List α} {pre suf : List (α × Nat)} {x : α × Nat} (h : l.zipIdx = pre ++ x :: suf) : ∃ hk : pre.length < l.length, x = (l[pre.length], pre.length) := by
 have hk : pre.length < l.length := by have := congrArg List.length h; simp at this; omega
 refine ⟨hk, ?_⟩
 have h1 : l.zipIdx[pre.length]? = some x := by rw [h]; simp
 rw [List.getElem?_zipIdx] at h1
 simp [hk] at h1
 exact h1.symm
def encOct (p : UInt8 × Nat) (_ : World) (args : Array Value) : Prop := args = #[vi p.2, byteV p.1]
theorem octets1_ok {W0 : World} {n0 : Nat} {C : Nat → Prop} {b : Nat} {l : List UInt8} (hb : W0.cell? ⟨b, 0, Option.none⟩ = some (vs l)) (hbn : b < n0) (hbC : ¬ C b) (hl : l.length ≤ 9000000000000000000) :
  Iter Tryz.prog 192 #[.pointer (some ⟨b, 0, Option.none⟩)] W0 n0 C l.zipIdx encOct := by
 intro lp J Jx W hW hnW hJ hJx hY h0
 refine enter Tryz.func192 Tryz.ntmps192 rfl rfl ?_
 repeat (first | refine c_r ?_ | refine rg0 ?_)
 refine W_loop (fun m σ ds v => ds = [] ∧ ∃ i, i + m = l.length ∧ σ 3 = vi i ∧ σ 0 = .func (.yield lp) #[] #[] ∧ σ 1 = .pointer (some ⟨b, 0, Option.none⟩) ∧ J (l.zipIdx.take i) v ∧ KeepB n0 C W v) l.length ?_ ?_
 ·refine ⟨rfl, 0, by omega, ?_, ?_, ?_, by simpa using h0, KeepB.refl _ _ _⟩ <;> simp only [↓reduceIte, go_sem, Nat.reduceLT, Nat.reduceEqDiff, Nat.reduceSub] <;> rfl
 ·rintro m σ ds v ⟨rfl, i, him, h3, hf0, hf1, hj, hK0⟩
  have hcell : cellO v (some ⟨b, 0, Option.none⟩) = some (vs l) := cell_keepB hK0 hbn hbC (cell_ext hW hb)
  repeat refine c_r ?_
  refine rg4 h3 hf0 hf1 hcell ?_
  refine wc0 ?_ ?_
  ·intro hlt
   simp only [decide_eq_true_eq] at hlt
   have hi : i < l.zipIdx.length := by simp; omega
   repeat refine c_r ?_
   refine rq ?_; intro gd K hgd hK
   try simp (disch := first | omega | assumption | rfl) only [↓reduceIte, go_sem, Nat.reduceLT, Nat.reduceEqDiff, Nat.reduceSub, h3, hf0, hf1, hcell]
   refine Yld.mono (hY (l.zipIdx.take i) l.zipIdx[i] (l.zipIdx.drop (i + 1)) v _ (split_at hi) hj hK0 (by simp [encOct, byteV])) ?_
   rintro u x (⟨rfl, hj', hk'⟩ | ⟨rfl, hjx⟩)
   ·try simp (disch := first | omega | assumption | rfl) only [↓reduceIte, go_sem, Nat.reduceLT, Nat.reduceEqDiff, Nat.reduceSub]
    refine hK _ _ ?_; clear hK hgd; clear K; try clear gd
    repeat refine c_r ?_
    refine wc0 ?_ ?_
    ·intro h; simp at h
    ·intro _
     repeat refine c_r ?_
     refine rg1 h3 ?_
     refine thenQ_normal ?_
     refine ⟨m - 1, by omega, rfl, i + 1, by omega, ?_, ?_, ?_, ?_, hK0.trans hk'⟩
     ·simp only [↓reduceIte, go_sem, Nat.reduceLT, Nat.reduceEqDiff, Nat.reduceSub]; rfl
     ·simp only [↓reduceIte, go_sem, Nat.reduceLT, Nat.reduceEqDiff, Nat.reduceSub, hf0]
     ·simp only [↓reduceIte, go_sem, Nat.reduceLT, Nat.reduceEqDiff, Nat.reduceSub, hf1]
     ·rw [take_succ' hi]; exact hj'
   ·try simp (disch := first | omega | assumption | rfl) only [↓reduceIte, go_sem, Nat.reduceLT, Nat.reduceEqDiff, Nat.reduceSub]
    refine hK _ _ ?_; clear hK hgd; clear K; try clear gd
    repeat refine c_r ?_
    refine wc0 ?_ ?_
    ·intro _
     repeat refine c_r ?_
     refine ret_none (by simp) rfl (.inr ⟨_, _, _, split_at hi, hjx⟩)
    ·intro h; simp at h
  ·intro hge
   simp only [decide_eq_false_iff_not] at hge
   repeat refine c_r ?_
   refine ret_none (by simp) rfl (.inl ?_)
   have : l.zipIdx.take i = l.zipIdx := List.take_of_length_le (by simp; omega)
   rw [this] at hj; exact hj
theorem octets_ok (w : World) (l : List UInt8) (hl : l.length ≤ 9000000000000000000) : Fn Tryz.prog 148 #[vs l] w (fun v w' => Ext w w' ∧ ∃ cap, v = .func (.func 192) #[] cap ∧
  ∀ C : Nat → Prop, (∀ b, C b → b < w.heap.size) → Iter Tryz.prog 192 cap w' w'.heap.size C l.zipIdx encOct) := by
 refine enter Tryz.func148 Tryz.ntmps148 rfl rfl ?_
 repeat refine c_r ?_
 refine rg0 ?_
 repeat refine c_r ?_
 refine rg0 ?_
 repeat refine c_r ?_
 refine rt0 Tryz.ntmps148 ?_
 refine ⟨Ext.alloc _ _, _, rfl, fun C hC => octets1_ok ?_ (by simp) (fun h => by have := hC _ h; omega) hl⟩
 rw [cell_of (new_block _ _)]; rfl
def foldB (c : UInt8) : UInt8 := if 65 ≤ c ∧ c ≤ 90 then c + 32 else c
def foldL (l : List UInt8) : List UInt8 := l.map foldB
def foldTo (l : List UInt8) (k : Nat) : List UInt8 := foldL (l.take k) ++ l.drop k
theorem foldTo_step {l : List UInt8} {k : Nat} (hk : k < l.length) : (foldTo l k).set k (foldB l[k]) = foldTo l (k + 1) := by
 unfold foldTo foldL
 have e : (List.map foldB (l.take k)).length = k := by simp; omega
 rw [take_succ' hk, List.map_append, List.set_append_right _ _ (by omega), e, Nat.sub_self, List.drop_eq_getElem_cons hk, List.set_cons_zero]
 simp
theorem foldTo_len (l : List UInt8) (k : Nat) : (foldTo l k).length = l.length := by simp [foldTo, foldL]; omega
theorem foldB_up {c : UInt8} (h : 65 ≤ c ∧ c ≤ 90) : foldB c = c + 32 := if_pos h
theorem foldB_no {c : UInt8} (h : ¬ (65 ≤ c ∧ c ≤ 90)) : foldB c = c := if_neg h
theorem foldTo_same {l : List UInt8} {k : Nat} (hk : k < l.length) (h : ¬ (65 ≤ l[k] ∧ l[k] ≤ 90)) : foldTo l k = foldTo l (k + 1) := by
 rw [← foldTo_step hk, foldB_no h]
 apply List.ext_getElem?
 intro j
 rw [List.getElem?_set]
 split
 ·rename_i hj; subst hj
  rw [if_pos (by rw [foldTo_len]; exact hk)]
  unfold foldTo foldL
  have e : (List.map foldB (l.take k)).length = k := by simp; omega
  rw [List.getElem?_append_right (by omega), e]
  simp [hk]
 ·rfl
theorem LFold_ok (w : World) (l : List UInt8) (hl : l.length ≤ 9000000000000000000) : Fn Tryz.prog 87 #[vs l] w (fun v w' => v = vs (foldL l) ∧ Ext w w') := by
 refine enter Tryz.func87 Tryz.ntmps87 rfl rfl ?_
 repeat (first | refine c_r ?_ | refine rg0 ?_)
 repeat refine c_r ?_
 refine rq ?_; intro gd K hgd hK
 try simp (disch := first | omega | assumption | rfl) only [↓reduceIte, go_sem, Nat.reduceLT, Nat.reduceEqDiff, Nat.reduceSub]
 refine conv_s2b rfl rfl rfl (vq0) ?_
 intro c cur w1 hlc hcur htake hE1 hsz1 hb1
 try simp (disch := first | omega | assumption | rfl) only [↓reduceIte, go_sem, Nat.reduceLT, Nat.reduceEqDiff, Nat.reduceSub]
 refine st_one rfl rfl rfl (new_block _ _) (by simp) (by simp) ?_
 intro w2 hsz2 hb2 hk2
 simp only [World.size_alloc] at hsz2 hb2 hk2
 have hE2 : Ext w w2 := hE1.trans (Keep.to_ext (Ext.alloc w1 _) rfl (fun b hb => by omega) hk2)
 have hgb : w2.heap[w.heap.size]? = some (.cells cur 5 (c, c + 1)) := (hk2.block _ (by simp; omega) (by omega)).trans ((RowKit.Below.heap_alloc _ _ _ (by omega)).trans hb1)
 rw [hsz1] at hsz2 hb2 ⊢
 simp at hb2
 clear hk2 hb1
 refine hK _ _ ?_; clear hK hgd; clear K; try clear gd
 repeat refine c_r ?_
 refine rq ?_; intro gd K hgd hK
 try simp (disch := first | omega | assumption | rfl) only [↓reduceIte, go_sem, Nat.reduceLT, Nat.reduceEqDiff, Nat.reduceSub]
 refine Fn.mono (octets_ok _ _ hl) ?_
 rintro _ w3 ⟨hE3, cap, rfl, hit⟩
 try simp (disch := first | omega | assumption | rfl) only [↓reduceIte, go_sem, Nat.reduceLT, Nat.reduceEqDiff, Nat.reduceSub]
 refine hK _ _ ?_; clear hK hgd; clear K; try clear gd
 repeat refine c_r ?_
 have hE3' := hE2.trans hE3
 have hsz3 := hE3.size
 refine W_range (g := 192) (cap := cap) (vq0) rfl (hit (fun b => b = w.heap.size) (fun b hb => by omega)) (Keep.refl _ _) (Nat.le_refl _) (fun b hb => by omega)
  (fun x A args h => by rw [h]; rfl)
  (fun pre A => Ext w A ∧ A.heap[w.heap.size + 1]? = some (.cells #[.slice (some ⟨w.heap.size, 0, Option.none⟩) l.length c] 57 (0, 0)) ∧
   ∃ cur : Array Value, cur.size = c ∧ cur.toList.take l.length = (foldTo l pre.length).map byteV ∧ A.heap[w.heap.size]? = some (.cells cur 5 (c, c + 1)))
  (fun _ _ _ => False) ?_ (fun _ _ _ _ h _ => h.elim) ?_ ?_ ?_ (fun _ _ _ _ _ _ _ h _ => h.elim)
 ·rintro pre A B ⟨h1, h2, cu, h3, h4, h5⟩ hk
  have ne1 : ¬ two w3.heap.size (w.heap.size + 1) := by unfold two; omega
  have ne2 : ¬ two w3.heap.size w.heap.size := by unfold two; omega
  exact ⟨Keep.to_ext h1 rfl (fun b hb => by unfold two at hb; omega) hk, (hk.block _ (Array.getElem?_eq_some_iff.1 h2).1 ne1).trans h2, cu, h3, h4,
   (hk.block _ (Array.getElem?_eq_some_iff.1 h5).1 ne2).trans h5⟩
 ·refine ⟨hE3', (hE3.block _ (by omega) (fun h => h)).trans hb2, cur, hcur, ?_, (hE3.block _ (by omega) (fun h => h)).trans hgb⟩
  simpa [foldTo, foldL] using htake
 ·rintro lp pre x suf A args hxs hszA ⟨hEA, hbox, cu, hcu, hpre, hrow⟩ rfl
  obtain ⟨hk, rfl⟩ := zipIdx_split hxs
  dsimp only
  repeat (first | refine c_r ?_ | (refine W_reg (by rfl) ?_; intro gd K hgd hK; simp (disch := first | omega | assumption | rfl) only [↓reduceIte, go_sem, Nat.reduceLT, Nat.reduceEqDiff, Nat.reduceSub, byteV]; refine hK _ _ ?_; clear hK hgd; clear K gd))
  refine ⟨rfl, KeepB.refl _ _ _, fun A2 hA2 => ?_⟩
  have ne1 : ¬ two w3.heap.size (w.heap.size + 1) := by unfold two; omega
  have ne2 : ¬ two w3.heap.size w.heap.size := by unfold two; omega
  have hbox2 := (hA2.block _ (Array.getElem?_eq_some_iff.1 hbox).1 ne1).trans hbox
  have hrow2 := (hA2.block _ (Array.getElem?_eq_some_iff.1 hrow).1 ne2).trans hrow
  have hE2' : Ext w A2 := Keep.to_ext hEA rfl (fun b hb => by unfold two at hb; omega) hA2
  have hs2 := hA2.size
  clear hbox hrow hA2 hit hb2 hgb
  have hcu' : cu[pre.length]? = some (byteV (l[pre.length])) := by
   have : (cu.toList.take l.length)[pre.length]? = some (byteV (l[pre.length])) := by
    rw [hpre, List.getElem?_map]
    unfold foldTo
    rw [List.getElem?_append_right (by simp [foldL]; omega)]
    have e : (foldL (l.take pre.length)).length = pre.length := by simp [foldL]; omega
    rw [e]; simp [hk]
   rw [List.getElem?_take, if_pos hk] at this
   simpa using this
  have hbit : ∀ u : UInt8, (65 ≤ u ↔ (65 : Int) ≤ u.toNat) ∧ (u ≤ 90 ↔ (u.toNat : Int) ≤ 90) := fun u => by
   rw [UInt8.le_iff_toNat_le, UInt8.le_iff_toNat_le]
   constructor
   ·show 65 ≤ u.toNat ↔ _; omega
   ·show u.toNat ≤ 90 ↔ _; omega
  have hkeep : ∀ B, A2 = B → ¬ (65 ≤ l[pre.length] ∧ l[pre.length] ≤ 90) → (Ext w B ∧ B.heap[w.heap.size + 1]? = some (.cells #[.slice (some ⟨w.heap.size, 0, Option.none⟩) l.length c] 57 (0, 0)) ∧
   ∃ cur : Array Value, cur.size = c ∧ cur.toList.take l.length = (foldTo l (pre ++ [(l[pre.length], pre.length)]).length).map byteV ∧ B.heap[w.heap.size]? = some (.cells cur 5 (c, c + 1))) ∧
    KeepB (w3.heap.size + 2) (fun b => b = w.heap.size) A2 B := by
   rintro B rfl hno
   refine ⟨⟨hE2', hbox2, cu, hcu, ?_, hrow2⟩, KeepB.refl _ _ _⟩
   rw [hpre, foldTo_same hk hno]; simp
  generalize hcc : l[pre.length] = cc at *
  repeat refine c_r ?_
  refine rq ?_; intro gd K hgd hK
  have hg2 : ∀ n σ b, wantV gd n σ (some (2, b)) = boolIs (ev n σ (.tmp 14)) b := (fun n σ b => by rw [wantV_some, show gd 2 = some 14 from (by rw [hgd]; rfl)]; rfl)
  by_cases h65 : (65 : Int) ≤ cc.toNat
  ·try simp (disch := first | omega | assumption | rfl) only [↓reduceIte, go_sem, Nat.reduceLT, Nat.reduceEqDiff, Nat.reduceSub, hg2, wantV_some, wantO_some, boolIs_bool, decide_eq_true h65, beq_self_eq_true]
   refine hK _ _ ?_; clear hK hgd; clear K; try clear gd
   repeat refine c_r ?_
   refine wc0 ?_ ?_
   ·intro h90
    simp only [decide_eq_true_eq] at h90
    have hc1 : cellO A2 (some ⟨w.heap.size + 1, 0, Option.none⟩) = some (.slice (some ⟨w.heap.size, 0, Option.none⟩) l.length c) := by
     show A2.cell? _ = _
     rw [cell_of hbox2]; rfl
    repeat refine c_r ?_
    refine rq ?_; intro gd K hgd hK
    try simp (disch := first | omega | assumption | rfl) only [↓reduceIte, go_sem, Nat.reduceLT, Nat.reduceEqDiff, Nat.reduceSub, hc1]
    refine st_one rfl rfl rfl hrow2 (by omega) (by simp; omega) ?_
    intro w5 hsz5 hb5 hk5
    refine hK _ _ ?_; clear hK hgd; clear K; try clear gd
    repeat refine c_r ?_
    have hset : ((foldTo l pre.length).map byteV).set pre.length (.int .u8 (↑cc.toNat + 97 - 65)) = (foldTo l (pre.length + 1)).map byteV := by
     rw [← foldTo_step hk, hcc, List.map_set]
     congr 1
     rw [foldB_up ⟨(hbit cc).1.2 h65, (hbit cc).2.2 h90⟩]
     unfold byteV
     congr 1
     have : (cc + 32).toNat = cc.toNat + 32 := by
      rw [UInt8.toNat_add]; show (cc.toNat + 32) % 256 = _; omega
     rw [this]; push_cast; omega
    refine ⟨⟨Keep.to_ext hE2' rfl (fun b hb => by omega) hk5, ?_, cu.setIfInBounds pre.length (.int .u8 (↑cc.toNat + 97 - 65)), by simpa using hcu, ?_, hb5⟩, hk5.toB (by omega) (fun i _ h => h)⟩
    ·exact (hk5.block _ (by omega) (by omega)).trans hbox2
    ·rw [Array.toList_setIfInBounds, List.take_set, hpre, hset]; simp
   ·intro h90
    simp only [decide_eq_false_iff_not] at h90
    repeat refine c_r ?_
    exact hkeep _ rfl (fun h => h90 ((hbit cc).2.1 h.2))
  ·try simp (disch := first | omega | assumption | rfl) only [↓reduceIte, go_sem, Nat.reduceLT, Nat.reduceEqDiff, Nat.reduceSub, hg2, wantV_some, wantO_some, boolIs_bool, decide_eq_false h65, beq_self_eq_true]
   refine hK _ _ ?_; clear hK hgd; clear K; try clear gd
   repeat refine c_r ?_
   refine wc0 ?_ ?_
   ·intro h; simp at h
   ·intro _
    repeat refine c_r ?_
    exact hkeep _ rfl (fun h => h65 ((hbit cc).1.1 h.1))
 ·rintro w4 hsz4 ⟨hE4, hbox, cu, hcu, hpre, hrow⟩ hD
  have hc1 : cellO w4 (some ⟨w.heap.size + 1, 0, Option.none⟩) = some (.slice (some ⟨w.heap.size, 0, Option.none⟩) l.length c) := by
   show w4.cell? _ = _
   rw [cell_of hbox]; rfl
  have hfull : foldTo l l.zipIdx.length = foldL l := by simp [foldTo]
  rw [hfull] at hpre
  have hlen : (foldL l).length = l.length := by simp [foldL]
  repeat refine c_r ?_
  refine rq ?_; intro gd K hgd hK
  try simp (disch := first | omega | assumption | rfl) only [↓reduceIte, go_sem, Nat.reduceLT, Nat.reduceEqDiff, Nat.reduceSub, hc1]
  rw [← hlen]
  refine conv_b2s rfl rfl rfl (vq0) ?_ ?_
  ·intro j hj
   rw [hlen] at hj
   rw [adr_some]
   show w4.cell? _ = _
   rw [cell_of hrow]
   have : (cu.toList.take l.length)[j]? = some (byteV ((foldL l)[j]'(by omega))) := by
    rw [hpre, List.getElem?_map, List.getElem?_eq_getElem (by omega)]; rfl
   rw [List.getElem?_take, if_pos hj] at this
   simpa using this
  try simp (disch := first | omega | assumption | rfl) only [↓reduceIte, go_sem, Nat.reduceLT, Nat.reduceEqDiff, Nat.reduceSub]
  refine hK _ _ ?_; clear hK hgd; clear K; try clear gd
  repeat refine c_r ?_
  refine ret_mark (by simp) rfl Tryz.ntmps87 (by simp only [↓reduceIte, go_sem, Nat.reduceLT, Nat.reduceEqDiff, Nat.reduceSub]; rfl) hD ?_
  intro w5 hk5 _
  exact ⟨rfl, Keep.to_ext hE4 rfl (fun b hb => by omega) hk5⟩
def cmpI (a b : Int) : Int := if a < b then -1 else if b < a then 1 else 0
def orI : List Int → Int
 | [] => 0
 | a :: l => if a = 0 then orI l else a
def lexC {α : Type} (cf : α → α → Int) : List α → List α → Int
 | [], [] => 0
 | [], _ :: _ => -1
 | _ :: _, [] => 1
 | x :: l, y :: m => if cf x y = 0 then lexC cf l m else cf x y
theorem orI_drop {l : List Int} {i : Nat} (h : i < l.length) : orI (l.drop i) = if l[i] = 0 then orI (l.drop (i + 1)) else l[i] := by
 rw [List.drop_eq_getElem_cons h]; rfl
theorem lexC_drop {α : Type} {cf : α → α → Int} {a b : List α} {i : Nat} (ha : i < a.length) (hb : i < b.length) : lexC cf (a.drop i) (b.drop i) = if cf a[i] b[i] = 0 then lexC cf (a.drop (i + 1)) (b.drop (i + 1)) else cf a[i] b[i] := by
 rw [List.drop_eq_getElem_cons ha, List.drop_eq_getElem_cons hb]; rfl
theorem lexC_nil {α : Type} {cf : α → α → Int} : ∀ {a b : List α}, a = [] ∨ b = [] → lexC cf a b = cmpI a.length b.length
 | [], [], _ => rfl
 | [], _ :: _, _ => by simp only [lexC, cmpI, List.length_cons, List.length_nil]; rw [if_pos (by omega)]
 | _ :: _, [], _ => by simp only [lexC, cmpI, List.length_cons, List.length_nil]; rw [if_neg (by omega), if_pos (by omega)]
 | _ :: _, _ :: _, h => by simp at h
end Go.Proofs.YtopbbjdembnfdaaGreat
namespace Go.Proofs.YtopbbjdembnfdaaGreat.N_int
open Go Go.Proofs.YtopbbjdembnfdaaGreat
set_option maxRecDepth 10000
theorem isNaN_ok (w : World) (a : Int) : Fn Tryz.prog 171 #[.int .i64 a] w (fun v w' => v = .bool false ∧ w' = w) := by
 refine enter Tryz.func171 Tryz.ntmps171 rfl rfl ?_
 repeat (first | refine c_r ?_ | (refine W_reg (by rfl) ?_; intro gd K hgd hK; simp (disch := first | omega | assumption | rfl) only [↓reduceIte, go_sem, Nat.reduceLT, Nat.reduceEqDiff, Nat.reduceSub, decide_true]; refine hK _ _ ?_; clear hK hgd; clear K gd))
 refine rt0 Tryz.ntmps171 ?_
 exact ⟨rfl, rfl⟩
theorem Compare_ok (w : World) (a b : Int) : Fn Tryz.prog 120 #[.int .i64 a, .int .i64 b] w (fun v w' => v = vi (cmpI a b) ∧ w' = w) := by
 refine enter Tryz.func120 Tryz.ntmps120 rfl rfl ?_
 repeat refine c_r ?_
 refine rg0 ?_
 repeat refine c_r ?_
 refine rq ?_; intro gd K hgd hK
 try simp (disch := first | omega | assumption | rfl) only [↓reduceIte, go_sem, Nat.reduceLT, Nat.reduceEqDiff, Nat.reduceSub]
 refine Fn.mono (isNaN_ok _ _) ?_
 rintro _ _ ⟨rfl, rfl⟩
 try simp (disch := first | omega | assumption | rfl) only [↓reduceIte, go_sem, Nat.reduceLT, Nat.reduceEqDiff, Nat.reduceSub]
 refine hK _ _ ?_; clear hK hgd; clear K; try clear gd
 repeat refine c_r ?_
 refine rq ?_; intro gd K hgd hK
 try simp (disch := first | omega | assumption | rfl) only [↓reduceIte, go_sem, Nat.reduceLT, Nat.reduceEqDiff, Nat.reduceSub]
 refine Fn.mono (isNaN_ok _ _) ?_
 rintro _ _ ⟨rfl, rfl⟩
 try simp (disch := first | omega | assumption | rfl) only [↓reduceIte, go_sem, Nat.reduceLT, Nat.reduceEqDiff, Nat.reduceSub]
 refine hK _ _ ?_; clear hK hgd; clear K; try clear gd
 repeat refine c_r ?_
 refine rg0 ?_
 repeat refine c_r ?_
 refine wc0 ?_ ?_
 ·intro h; cases h
 intro _
 repeat refine c_r ?_
 refine rg0 ?_
 repeat refine c_r ?_
 refine wc0 ?_ ?_
 ·intro h; cases h
 intro _
 repeat refine c_r ?_
 refine rg0 ?_
 repeat refine c_r ?_
 refine wc0 ?_ ?_
 ·intro h
  simp only [decide_eq_true_eq] at h
  repeat (first | refine c_r ?_ | refine rg0 ?_)
  refine rt0 Tryz.ntmps120 ?_
  exact ⟨by rw [cmpI, if_pos h], rfl⟩
 intro h
 simp only [decide_eq_false_iff_not] at h
 repeat (first | refine c_r ?_ | refine rg0 ?_)
 refine wc0 ?_ ?_
 ·intro h2
  simp only [decide_eq_true_eq] at h2
  repeat (first | refine c_r ?_ | refine rg0 ?_)
  refine rt0 Tryz.ntmps120 ?_
  exact ⟨by rw [cmpI, if_neg h, if_pos h2], rfl⟩
 intro h2
 simp only [decide_eq_false_iff_not] at h2
 repeat (first | refine c_r ?_ | refine rg0 ?_)
 refine rt0 Tryz.ntmps120 ?_
 exact ⟨by rw [cmpI, if_neg h, if_neg h2], rfl⟩
end Go.Proofs.YtopbbjdembnfdaaGreat.N_int
namespace Go.Proofs.YtopbbjdembnfdaaGreat
open Go
section
variable {P : Program} {d : Option Tmp} {ty : TypeId} {ps : String} {af : Array Edge} {g : Option (Nat × Bool)} {ρ : Operand → Value} {w : World} {K : Value → World → Prop}
end
set_option maxRecDepth 10000
theorem u8_le (u : UInt8) : (65 ≤ u ↔ (65 : Int) ≤ u.toNat) ∧ (u ≤ 90 ↔ (u.toNat : Int) ≤ 90) := by
 rw [UInt8.le_iff_toNat_le, UInt8.le_iff_toNat_le]
 constructor
 ·show 65 ≤ u.toNat ↔ _; omega
 ·show u.toNat ≤ 90 ↔ _; omega
theorem byteV_up {cc : UInt8} (h65 : (65 : Int) ≤ cc.toNat) (h90 : (cc.toNat : Int) ≤ 90) : byteV (foldB cc) = .int .u8 (cc.toNat + 32) := by
 rw [foldB_up ⟨(u8_le cc).1.2 h65, (u8_le cc).2.2 h90⟩]
 unfold byteV
 congr 1
 have : (cc + 32).toNat = cc.toNat + 32 := by
  rw [UInt8.toNat_add]; show (cc.toNat + 32) % 256 = _; omega
 rw [this]; push_cast; omega
theorem foldTo_get {l : List UInt8} {k : Nat} (hk : k < l.length) : (foldTo l k)[k]? = some l[k] := by
 unfold foldTo
 have e : (foldL (l.take k)).length = k := by simp [foldL]; omega
 rw [List.getElem?_append_right (by omega), e]; simp [hk]
theorem RFoldLabel_ok (w : World) (l : List UInt8) (hl : l.length ≤ 9000000000000000000) : Fn Tryz.prog 88 #[vs l] w (fun v w' => v = vs (foldL l) ∧ Ext w w') := by
 refine enter Tryz.func88 Tryz.ntmps88 rfl rfl ?_
 repeat (first | refine c_r ?_ | refine rg0 ?_)
 repeat refine c_r ?_
 refine rq ?_; intro gd K hgd hK
 try simp (disch := first | omega | assumption | rfl) only [↓reduceIte, go_sem, Nat.reduceLT, Nat.reduceEqDiff, Nat.reduceSub]
 refine conv_s2b rfl rfl rfl (vq0) ?_
 intro c cur w1 hlc hcur htake hE1 hsz1 hb1
 try simp (disch := first | omega | assumption | rfl) only [↓reduceIte, go_sem, Nat.reduceLT, Nat.reduceEqDiff, Nat.reduceSub]
 refine hK _ _ ?_; clear hK hgd; clear K; try clear gd
 repeat (first | refine c_r ?_ | refine rg0 ?_)
 refine W_loop (fun m σ ds A => ds = [] ∧ ∃ i, i + m = l.length ∧ σ 4 = vi i ∧ σ 3 = .slice (some ⟨w.heap.size, 0, Option.none⟩) l.length c ∧ Ext w A ∧
  ∃ cur : Array Value, cur.size = c ∧ cur.toList.take l.length = (foldTo l i).map byteV ∧ A.heap[w.heap.size]? = some (.cells cur 5 (c, c + 1))) l.length ?_ ?_
 ·refine ⟨rfl, 0, by omega, ?_, ?_, hE1, cur, hcur, by simpa [foldTo, foldL] using htake, hb1⟩ <;> simp only [↓reduceIte, go_sem, Nat.reduceLT, Nat.reduceEqDiff, Nat.reduceSub] <;> rfl
 ·rintro m σ ds A ⟨rfl, i, him, h4, h3, hE, cu, hcu, hpre, hrow⟩
  repeat refine c_r ?_
  refine rg2 h4 h3 ?_
  refine wc0 ?_ ?_
  ·intro hlt
   simp only [decide_eq_true_eq] at hlt
   have hk : i < l.length := by omega
   generalize hcc : l[i] = cc
   have hcell : cellO A (some ⟨w.heap.size, i, Option.none⟩) = some (.int .u8 cc.toNat) := by
    show A.cell? _ = _
    rw [cell_of hrow]
    have : (cu.toList.take l.length)[i]? = some (byteV cc) := by rw [hpre, List.getElem?_map, foldTo_get hk, hcc]; rfl
    rw [List.getElem?_take, if_pos hk] at this
    simpa [byteV] using this
   repeat (with_reducible first | refine W_skip ?_ | refine W_ret ?_ | refine W_exit ?_ | refine thenQ_normal ?_ | refine thenQ_exit ?_ | refine thenQ_ret ?_ | refine blockQ_normal ?_ | refine blockQ_ret ?_ | refine blockQ_same ?_ | refine blockQ_other rfl ?_)
   refine W_mid (fun σ ds B => ds = [] ∧ σ 4 = vi i ∧ σ 3 = .slice (some ⟨w.heap.size, 0, Option.none⟩) l.length c ∧ Ext w B ∧
    ∃ cur : Array Value, cur.size = c ∧ cur.toList.take l.length = (foldTo l (i + 1)).map byteV ∧ B.heap[w.heap.size]? = some (.cells cur 5 (c, c + 1))) ?_ ?_
   ·repeat refine c_r ?_
    refine rq ?_; intro gd K hgd hK
    have hg5 : ∀ n σ b, wantV gd n σ (some (5, b)) = boolIs (ev n σ (.tmp 18)) b := (fun n σ b => by rw [wantV_some, show gd 5 = some 18 from (by rw [hgd]; rfl)]; rfl)
    have hno : ¬ (65 ≤ cc ∧ cc ≤ 90) → cu.toList.take l.length = (foldTo l (i + 1)).map byteV := fun h => by rw [hpre, foldTo_same hk (by rw [hcc]; exact h)]
    by_cases h65 : (65 : Int) ≤ cc.toNat
    ·try simp (disch := first | omega | assumption | rfl) only [↓reduceIte, go_sem, Nat.reduceLT, Nat.reduceEqDiff, Nat.reduceSub, h4, h3, hcell, decide_eq_true h65, ↓hg5]
     refine hK _ _ ?_; clear hK hgd; clear K; try clear gd
     repeat refine c_r ?_
     refine wc0 ?_ ?_
     ·intro h90
      simp only [decide_eq_true_eq] at h90
      repeat refine c_r ?_
      refine rq ?_; intro gd K hgd hK
      try simp (disch := first | omega | assumption | rfl) only [↓reduceIte, go_sem, Nat.reduceLT, Nat.reduceEqDiff, Nat.reduceSub, h4, h3, hcell]
      refine st_one rfl rfl rfl hrow (by omega) (by simp; omega) ?_
      intro w5 hsz5 hb5 hk5
      refine hK _ _ ?_; clear hK hgd; clear K; try clear gd
      repeat (with_reducible first | refine W_skip ?_ | refine W_ret ?_ | refine W_exit ?_ | refine thenQ_normal ?_ | refine thenQ_exit ?_ | refine thenQ_ret ?_ | refine blockQ_normal ?_ | refine blockQ_ret ?_ | refine blockQ_same ?_ | refine blockQ_other rfl ?_)
      have hset : ((foldTo l i).map byteV).set i (.int .u8 (↑cc.toNat + 32)) = (foldTo l (i + 1)).map byteV := by
       rw [← foldTo_step hk, hcc, List.map_set, byteV_up h65 h90]
      refine ⟨rfl, ?_, ?_, Keep.to_ext hE rfl (fun b hb => by omega) hk5, cu.setIfInBounds i (.int .u8 (↑cc.toNat + 32)), by simpa using hcu, ?_, hb5⟩
      ·simp only [↓reduceIte, go_sem, Nat.reduceLT, Nat.reduceEqDiff, Nat.reduceSub, h4]
      ·simp only [↓reduceIte, go_sem, Nat.reduceLT, Nat.reduceEqDiff, Nat.reduceSub, h3]
      ·rw [Array.toList_setIfInBounds, List.take_set, hpre, hset]
     ·intro h90
      simp only [decide_eq_false_iff_not] at h90
      repeat (with_reducible first | refine W_skip ?_ | refine W_ret ?_ | refine W_exit ?_ | refine thenQ_normal ?_ | refine thenQ_exit ?_ | refine thenQ_ret ?_ | refine blockQ_normal ?_ | refine blockQ_ret ?_ | refine blockQ_same ?_ | refine blockQ_other rfl ?_)
      exact ⟨rfl, (vq1 h4), (vq1 h3), hE, cu, hcu, hno (fun h => h90 ((u8_le cc).2.1 h.2)), hrow⟩
    ·try simp (disch := first | omega | assumption | rfl) only [↓reduceIte, go_sem, Nat.reduceLT, Nat.reduceEqDiff, Nat.reduceSub, h4, h3, hcell, decide_eq_false h65, ↓hg5]
     refine hK _ _ ?_; clear hK hgd; clear K; try clear gd
     repeat refine c_r ?_
     refine wc0 ?_ ?_
     ·intro h; simp at h
     ·intro _
      repeat (with_reducible first | refine W_skip ?_ | refine W_ret ?_ | refine W_exit ?_ | refine thenQ_normal ?_ | refine thenQ_exit ?_ | refine thenQ_ret ?_ | refine blockQ_normal ?_ | refine blockQ_ret ?_ | refine blockQ_same ?_ | refine blockQ_other rfl ?_)
      exact ⟨rfl, (vq1 h4), (vq1 h3), hE, cu, hcu, hno (fun h => h65 ((u8_le cc).1.1 h.1)), hrow⟩
   ·rintro σ' ds B ⟨rfl, h4', h3', hE', hex⟩
    refine rg1 h4' ?_
    refine thenQ_normal ?_
    exact ⟨m - 1, by omega, rfl, i + 1, by omega, by simp only [↓reduceIte, go_sem, Nat.reduceLT, Nat.reduceEqDiff, Nat.reduceSub]; rfl, (vq1 h3'), hE', hex⟩
  ·intro hge
   simp only [decide_eq_false_iff_not] at hge
   have hfull : foldTo l i = foldL l := by unfold foldTo; rw [List.take_of_length_le (by omega), List.drop_of_length_le (by omega)]; simp
   rw [hfull] at hpre
   have hlen : (foldL l).length = l.length := by simp [foldL]
   repeat refine c_r ?_
   refine rq ?_; intro gd K hgd hK
   try simp (disch := first | omega | assumption | rfl) only [↓reduceIte, go_sem, Nat.reduceLT, Nat.reduceEqDiff, Nat.reduceSub, h3]
   rw [← hlen]
   refine conv_b2s rfl rfl rfl ((vq2 h3 hlen)) ?_ ?_
   ·intro j hj
    rw [hlen] at hj
    rw [adr_some]
    show A.cell? _ = _
    rw [cell_of hrow]
    have : (cu.toList.take l.length)[j]? = some (byteV ((foldL l)[j]'(by omega))) := by
     rw [hpre, List.getElem?_map, List.getElem?_eq_getElem (by omega)]; rfl
    rw [List.getElem?_take, if_pos hj] at this
    simpa using this
   try simp (disch := first | omega | assumption | rfl) only [↓reduceIte, go_sem, Nat.reduceLT, Nat.reduceEqDiff, Nat.reduceSub]
   refine hK _ _ ?_; clear hK hgd; clear K; try clear gd
   repeat refine c_r ?_
   refine rt0 Tryz.ntmps88 ?_
   exact ⟨rfl, hE⟩
abbrev Nm := List (List UInt8)
def LB (n : Nm) : Prop := ∀ l ∈ n, l.length ≤ 9000000000000000000
theorem LB.get {n : Nm} (h : LB n) {i : Nat} (hi : i < n.length) : n[i].length ≤ 9000000000000000000 := h _ (List.getElem_mem hi)
def foldN (n : Nm) : Nm := n.map foldL
theorem foldN_len (n : Nm) : (foldN n).length = n.length := by simp [foldN]
theorem foldN_take {n : Nm} {i : Nat} (h : i < n.length) : foldN (n.take (i + 1)) = foldN (n.take i) ++ [foldL n[i]] := by
 rw [take_succ' h]; simp only [foldN, List.map_append, List.map_cons, List.map_nil]
theorem foldN_ne_len {a b : Nm} (h : a.length ≠ b.length) : foldN a ≠ foldN b := fun e => h (by rw [← foldN_len a, e, foldN_len])
theorem foldN_ne_at {a b : Nm} {i : Nat} (ha : i < a.length) (hb : i < b.length) (h : foldL a[i] ≠ foldL b[i]) : foldN a ≠ foldN b := by
 intro e
 apply h
 have := congrArg (fun l : Nm => l[i]?) e
 simpa [foldN, ha, hb] using this
theorem RSame_ok (w : World) (a b : Value) (xs ys : List (List UInt8)) (ha : Row w a (xs.map vs)) (hb : Row w b (ys.map vs)) (hx : LB xs) (hy : LB ys) (hxl : xs.length ≤ 9000000000000000000) (hyl : ys.length ≤ 9000000000000000000) :
  Fn Tryz.prog 30 #[a, b] w (fun v w' => v = .bool (decide (foldN xs = foldN ys)) ∧ Ext w w') := by
 obtain ⟨a, ca, rfl, hca, hla⟩ := ha
 obtain ⟨b, cb, rfl, hcb, hlb⟩ := hb
 simp only [List.length_map] at *
 refine enter Tryz.func30 Tryz.ntmps30 rfl rfl ?_
 repeat (first | refine c_r ?_ | refine rg0 ?_)
 refine W_cond (t := !decide ((xs.length : Int) = ys.length)) (by simp only [↓reduceIte, go_sem, Nat.reduceLT, Nat.reduceEqDiff, Nat.reduceSub]) ?_ ?_
 ·intro ht
  repeat (first | refine c_r ?_ | refine rg0 ?_)
  refine rt0 Tryz.ntmps30 ?_
  exact ⟨by rw [decide_eq_false (foldN_ne_len (by simp at ht; omega))], Keep.refl _ _⟩
 ·intro ht
  repeat (first | refine c_r ?_ | refine rg0 ?_)
  refine W_loop (fun m σ ds v => ds = [] ∧ ∃ i, i + m = xs.length ∧ σ 5 = vi i ∧ σ 0 = .slice a xs.length ca ∧ σ 1 = .slice b ys.length cb ∧ Ext w v ∧ foldN (xs.take i) = foldN (ys.take i)) xs.length ?_ ?_
  ·refine ⟨rfl, 0, by omega, ?_, ?_, ?_, Keep.refl _ _, by simp [foldN]⟩ <;> simp only [↓reduceIte, go_sem, Nat.reduceLT, Nat.reduceEqDiff, Nat.reduceSub] <;> rfl
  ·rintro m σ ds v ⟨rfl, i, him, h5, h0, h1, hE, hpre⟩
   refine W_seq ?_
   refine W_seq ?_
   refine rq ?_; intro gd K hgd hK
   simp only [↓reduceIte, go_sem, Nat.reduceLT, Nat.reduceEqDiff, Nat.reduceSub, h5, h0, h1]
   refine hK _ _ ?_; clear hK hgd; clear K; try clear gd
   refine W_cond (t := decide ((i : Int) < xs.length)) (by simp only [↓reduceIte, go_sem, Nat.reduceLT, Nat.reduceEqDiff, Nat.reduceSub]) ?_ ?_
   ·intro hlt
    simp only [decide_eq_true_eq] at hlt
    repeat refine c_r ?_
    refine W_drw (fun _ => false) [(0, true), (1, true), (2, true), (3, true), (5, true), (6, true), (7, true), (8, true), (4, false), (9, false), (10, true)] NoS mixed (by kernel_rfl) ?_; intro gd K x hgd hx hxe hK; clear hxe
    have hsa : a.isSome = true := some_of_cellO (hla i (by omega))
    have hsb : b.isSome = true := some_of_cellO (hlb i (by simp at ht; omega))
    have hla' := fun j h => cellO_ext (hE.trans hx) (hla j h)
    have hlb' := fun j h => cellO_ext (hE.trans hx) (hlb j h)
    have hxy : xs.length = ys.length := by simp at ht; omega
    clear ht
    simp (disch := first | omega | assumption) only [↓reduceIte, go_sem, Nat.reduceLT, Nat.reduceEqDiff, Nat.reduceSub, h5, h0, h1, hla', hlb', List.getElem_map]
    refine Fn.mono (RFoldLabel_ok _ _ (LB.get ‹LB _› _)) ?_
    rintro _ x1 ⟨rfl, hx1⟩
    refine ⟨.inr hx1, ?_⟩
    simp (disch := first | omega | assumption | rfl) only [↓reduceIte, go_sem, Nat.reduceLT, Nat.reduceEqDiff, Nat.reduceSub]
    refine Fn.mono (RFoldLabel_ok _ _ (LB.get ‹LB _› _)) ?_
    rintro _ x2 ⟨rfl, hx2⟩
    refine ⟨.inr hx2, ?_⟩
    simp only [↓reduceIte, go_sem, Nat.reduceLT, Nat.reduceEqDiff, Nat.reduceSub]
    refine hK _ _ ?_; clear hK hgd; clear K; try clear gd
    repeat refine c_r ?_
    refine W_cond (by simp only [↓reduceIte, go_sem, Nat.reduceLT, Nat.reduceEqDiff, Nat.reduceSub]; rfl) ?_ ?_
    ·intro hne
     simp only [Bool.not_eq_true', decide_eq_false_iff_not] at hne
     repeat (first | refine c_r ?_ | refine rg0 ?_)
     refine rt0 Tryz.ntmps30 ?_
     exact ⟨by rw [decide_eq_false (foldN_ne_at (i := i) (by omega) (by omega) hne)], ((hE.trans hx).trans hx1).trans hx2⟩
    ·intro heq
     simp only [Bool.not_eq_false', decide_eq_true_eq] at heq
     repeat refine c_r ?_
     refine rq ?_; intro gd K hgd hK
     simp (disch := first | omega | assumption) only [↓reduceIte, go_sem, Nat.reduceLT, Nat.reduceEqDiff, Nat.reduceSub, h5, h0, h1]
     refine hK _ _ ?_; clear hK hgd; clear K; try clear gd
     refine thenQ_normal ?_
     refine ⟨m - 1, by omega, rfl, i + 1, by omega, ?_, ?_, ?_, ((hE.trans hx).trans hx1).trans hx2, ?_⟩
     ·simp only [↓reduceIte, go_sem, Nat.reduceLT, Nat.reduceEqDiff, Nat.reduceSub]; rfl
     ·simp only [↓reduceIte, go_sem, Nat.reduceLT, Nat.reduceEqDiff, Nat.reduceSub, h0]
     ·simp only [↓reduceIte, go_sem, Nat.reduceLT, Nat.reduceEqDiff, Nat.reduceSub, h1]
     ·rw [foldN_take (by omega), foldN_take (by omega), hpre, heq]
   ·intro hge
    simp only [decide_eq_false_iff_not] at hge
    repeat (first | refine c_r ?_ | refine rg0 ?_)
    refine rt0 Tryz.ntmps30 ?_
    refine ⟨?_, hE⟩
    rw [List.take_of_length_le (by omega), List.take_of_length_le (by simp at ht; omega)] at hpre
    rw [decide_eq_true hpre]
theorem Row.cut {w : World} {a : Option Addr} {n c : Nat} {l : List Value} (hn : n = l.length) (hc : n ≤ c) (hl : ∀ j (h : j < l.length), cellO w (adr a j) = some l[j]) {lo hi : Nat} (h1 : lo ≤ hi) (h2 : hi ≤ n) :
  Row w (.slice (if c = lo then a else adr a lo) (hi - lo) (c - lo)) ((l.drop lo).take (hi - lo)) := by
 have hlen : ((l.drop lo).take (hi - lo)).length = hi - lo := by simp; omega
 refine ⟨_, _, by rw [hlen], by omega, fun j hj => ?_⟩
 rw [hlen] at hj
 rw [if_neg (by omega), adr_adr, hl (lo + j) (by omega)]
 simp
theorem Row.tail {w : World} {a : Option Addr} {n c : Nat} {l : List Value} (hn : n = l.length) (hc : n ≤ c) (hl : ∀ j (h : j < l.length), cellO w (adr a j) = some l[j]) {lo : Nat} (h2 : lo ≤ n) :
  Row w (.slice (if c = lo then a else adr a lo) (n - lo) (c - lo)) (l.drop lo) := by
 have := Row.cut hn hc hl h2 (Nat.le_refl _)
 rwa [List.take_of_length_le (by simp; omega)] at this
def under (n z : Nm) : Bool := decide (z.length ≤ n.length) && decide (foldN (n.drop (n.length - z.length)) = foldN z)
theorem LB.drop {n : Nm} (h : LB n) (k : Nat) : LB (n.drop k) := fun l hl => h l (List.drop_subset _ _ hl)
theorem RUnder_ok (w : World) (a b : Value) (xs ys : Nm) (ha : Row w a (xs.map vs)) (hb : Row w b (ys.map vs)) (hx : LB xs) (hy : LB ys) (hxl : xs.length ≤ 9000000000000000000) (hyl : ys.length ≤ 9000000000000000000) :
  Fn Tryz.prog 67 #[a, b] w (fun v w' => v = .bool (under xs ys) ∧ Ext w w') := by
 have hb0 := hb
 obtain ⟨a, ca, rfl, hca, hla⟩ := ha
 obtain ⟨b, cb, rfl, hcb, hlb⟩ := hb
 simp only [List.length_map] at *
 refine enter Tryz.func67 Tryz.ntmps67 rfl rfl ?_
 repeat refine c_r ?_
 refine rg0 ?_
 repeat refine c_r ?_
 refine rq ?_; intro gd K hgd hK
 have hg5 : ∀ n σ b, wantV gd n σ (some (5, b)) = boolIs (ev n σ (.tmp 10)) b := (fun n σ b => by rw [wantV_some, show gd 5 = some 10 from (by rw [hgd]; rfl)]; rfl)
 by_cases h : (ys.length : Int) ≤ xs.length
 ·try simp (disch := first | omega | assumption | rfl) only [↓reduceIte, go_sem, Nat.reduceLT, Nat.reduceEqDiff, Nat.reduceSub, decide_eq_true h, ↓hg5]
  have hd : ((xs.length : Int) - ys.length).toNat = xs.length - ys.length := by omega
  have hcut := Row.tail (l := xs.map vs) (by simp) hca (fun j hj => by rw [hla j (by simpa using hj)]) (lo := xs.length - ys.length) (by omega)
  rw [← List.map_drop] at hcut
  rw [hd]
  refine Fn.mono (RSame_ok w _ _ _ _ hcut hb0 (hx.drop _) hy (by simp; omega) hyl) ?_
  rintro _ w1 ⟨rfl, hE⟩
  try simp (disch := first | omega | assumption | rfl) only [↓reduceIte, go_sem, Nat.reduceLT, Nat.reduceEqDiff, Nat.reduceSub, decide_eq_true h, ↓hg5]
  refine hK _ _ ?_; clear hK hgd; clear K; try clear gd
  repeat refine c_r ?_
  refine rt0 Tryz.ntmps67 ?_
  exact ⟨by simp [under]; omega, hE⟩
 ·try simp (disch := first | omega | assumption | rfl) only [↓reduceIte, go_sem, Nat.reduceLT, Nat.reduceEqDiff, Nat.reduceSub, decide_eq_false h, ↓hg5]
  refine hK _ _ ?_; clear hK hgd; clear K; try clear gd
  repeat refine c_r ?_
  refine rt0 Tryz.ntmps67 ?_
  exact ⟨by simp [under]; omega, Keep.refl _ _⟩
theorem LSame_ok (w : World) (a b : List UInt8) (ha : a.length ≤ 9000000000000000000) (hb : b.length ≤ 9000000000000000000) : Fn Tryz.prog 86 #[vs a, vs b] w (fun v w' => v = .bool (decide (foldL a = foldL b)) ∧ Ext w w') := by
 refine enter Tryz.func86 Tryz.ntmps86 rfl rfl ?_
 repeat refine c_r ?_
 refine rg0 ?_
 repeat refine c_r ?_
 refine rq ?_; intro gd K hgd hK
 try simp (disch := first | omega | assumption | rfl) only [↓reduceIte, go_sem, Nat.reduceLT, Nat.reduceEqDiff, Nat.reduceSub]
 refine Fn.mono (LFold_ok _ _ ha) ?_
 rintro _ w1 ⟨rfl, hE1⟩
 try simp (disch := first | omega | assumption | rfl) only [↓reduceIte, go_sem, Nat.reduceLT, Nat.reduceEqDiff, Nat.reduceSub]
 refine Fn.mono (LFold_ok _ _ hb) ?_
 rintro _ w2 ⟨rfl, hE2⟩
 try simp (disch := first | omega | assumption | rfl) only [↓reduceIte, go_sem, Nat.reduceLT, Nat.reduceEqDiff, Nat.reduceSub]
 refine hK _ _ ?_; clear hK hgd; clear K; try clear gd
 repeat refine c_r ?_
 refine rt0 Tryz.ntmps86 ?_
 exact ⟨rfl, hE1.trans hE2⟩
theorem EqualFunc_ok (w : World) (a b : Value) (xs ys : Nm) (ha : Row w a (xs.map vs)) (hb : Row w b (ys.map vs)) (hx : LB xs) (hy : LB ys) (hxl : xs.length ≤ 9000000000000000000) (hyl : ys.length ≤ 9000000000000000000) :
  Fn Tryz.prog 85 #[a, b, .func (.func 86) #[] #[]] w (fun v w' => v = .bool (decide (foldN xs = foldN ys)) ∧ Ext w w') := by
 obtain ⟨a, ca, rfl, hca, hla⟩ := ha
 obtain ⟨b, cb, rfl, hcb, hlb⟩ := hb
 simp only [List.length_map] at *
 refine enter Tryz.func85 Tryz.ntmps85 rfl rfl ?_
 repeat (first | refine c_r ?_ | refine rg0 ?_)
 refine W_cond (t := !decide ((xs.length : Int) = ys.length)) (by simp only [↓reduceIte, go_sem, Nat.reduceLT, Nat.reduceEqDiff, Nat.reduceSub]) ?_ ?_
 ·intro ht
  repeat (first | refine c_r ?_ | refine rg0 ?_)
  refine rt0 Tryz.ntmps85 ?_
  exact ⟨by rw [decide_eq_false (foldN_ne_len (by simp at ht; omega))], Keep.refl _ _⟩
 ·intro ht
  have hxy : xs.length = ys.length := by simp at ht; omega
  clear ht
  repeat (first | refine c_r ?_ | refine rg0 ?_)
  refine W_loop (fun m σ ds v => ds = [] ∧ ∃ i, i + m = xs.length ∧ σ 17 = vi i ∧ σ 16 = vi xs.length ∧ σ 15 = .slice a xs.length ca ∧ σ 1 = .slice b ys.length cb ∧ σ 2 = .func (.func 86) #[] #[] ∧ Ext w v ∧ foldN (xs.take i) = foldN (ys.take i)) xs.length ?_ ?_
  ·refine ⟨rfl, 0, by omega, ?_, ?_, ?_, ?_, ?_, Keep.refl _ _, by simp [foldN]⟩ <;> simp only [↓reduceIte, go_sem, Nat.reduceLT, Nat.reduceEqDiff, Nat.reduceSub] <;> rfl
  ·rintro m σ ds v ⟨rfl, i, him, h17, h16, h15, h1, h2, hE, hpre⟩
   repeat refine c_r ?_
   refine rg2 h17 h16 ?_
   repeat refine c_r ?_
   refine wc0 ?_ ?_
   ·intro hlt
    simp only [decide_eq_true_eq] at hlt
    have hsa : a.isSome = true := some_of_cellO (hla i (by omega))
    have hsb : b.isSome = true := some_of_cellO (hlb i (by omega))
    have hla' := fun j h => cellO_ext hE (hla j h)
    have hlb' := fun j h => cellO_ext hE (hlb j h)
    repeat (first | refine c_r ?_ | (refine W_reg (by rfl) ?_; intro gd K hgd hK; simp (disch := first | omega | assumption | rfl) only [↓reduceIte, go_sem, Nat.reduceLT, Nat.reduceEqDiff, Nat.reduceSub, h17, h15, h1, hla', hlb', List.getElem_map]; refine hK _ _ ?_; clear hK hgd; clear K gd))
    refine rq ?_; intro gd K hgd hK
    try simp (disch := first | omega | assumption | rfl) only [↓reduceIte, go_sem, Nat.reduceLT, Nat.reduceEqDiff, Nat.reduceSub, h2]
    refine Fn.mono (LSame_ok _ _ _ (LB.get hx _) (LB.get hy _)) ?_
    rintro _ x1 ⟨rfl, hx1⟩
    try simp (disch := first | omega | assumption | rfl) only [↓reduceIte, go_sem, Nat.reduceLT, Nat.reduceEqDiff, Nat.reduceSub]
    refine hK _ _ ?_; clear hK hgd; clear K; try clear gd
    repeat refine c_r ?_
    refine wc0 ?_ ?_
    ·intro hne
     simp only [Bool.not_eq_true', decide_eq_false_iff_not] at hne
     repeat refine c_r ?_
     refine rg0 ?_
     repeat refine c_r ?_
     refine rt0 Tryz.ntmps85 ?_
     exact ⟨by rw [decide_eq_false (foldN_ne_at (i := i) (by omega) (by omega) hne)], hE.trans hx1⟩
    ·intro heq
     simp only [Bool.not_eq_false', decide_eq_true_eq] at heq
     repeat refine c_r ?_
     refine rg1 h17 ?_
     refine thenQ_normal ?_
     refine ⟨m - 1, by omega, rfl, i + 1, by omega, ?_, ?_, ?_, ?_, ?_, hE.trans hx1, ?_⟩
     ·simp only [↓reduceIte, go_sem, Nat.reduceLT, Nat.reduceEqDiff, Nat.reduceSub]; rfl
     ·simp only [↓reduceIte, go_sem, Nat.reduceLT, Nat.reduceEqDiff, Nat.reduceSub, h16]
     ·simp only [↓reduceIte, go_sem, Nat.reduceLT, Nat.reduceEqDiff, Nat.reduceSub, h15]
     ·simp only [↓reduceIte, go_sem, Nat.reduceLT, Nat.reduceEqDiff, Nat.reduceSub, h1]
     ·simp only [↓reduceIte, go_sem, Nat.reduceLT, Nat.reduceEqDiff, Nat.reduceSub, h2]
     ·rw [foldN_take (by omega), foldN_take (by omega), hpre, heq]
   ·intro hge
    simp only [decide_eq_false_iff_not] at hge
    repeat (first | refine c_r ?_ | refine rg0 ?_)
    refine rt0 Tryz.ntmps85 ?_
    refine ⟨?_, hE⟩
    rw [List.take_of_length_le (by omega), List.take_of_length_le (by omega)] at hpre
    rw [decide_eq_true hpre]
theorem Same_ok (w : World) (a b : Value) (xs ys : Nm) (ha : Row w a (xs.map vs)) (hb : Row w b (ys.map vs)) (hx : LB xs) (hy : LB ys) (hxl : xs.length ≤ 9000000000000000000) (hyl : ys.length ≤ 9000000000000000000) :
  Fn Tryz.prog 28 #[a, b] w (fun v w' => v = .bool (decide (foldN xs = foldN ys)) ∧ Ext w w') := by
 refine enter Tryz.func28 Tryz.ntmps28 rfl rfl ?_
 repeat refine c_r ?_
 refine rg0 ?_
 repeat refine c_r ?_
 refine rq ?_; intro gd K hgd hK
 try simp (disch := first | omega | assumption | rfl) only [↓reduceIte, go_sem, Nat.reduceLT, Nat.reduceEqDiff, Nat.reduceSub]
 refine Fn.mono (EqualFunc_ok w _ _ _ _ ha hb hx hy hxl hyl) ?_
 rintro _ w1 ⟨rfl, hE⟩
 try simp (disch := first | omega | assumption | rfl) only [↓reduceIte, go_sem, Nat.reduceLT, Nat.reduceEqDiff, Nat.reduceSub]
 refine hK _ _ ?_; clear hK hgd; clear K; try clear gd
 repeat refine c_r ?_
 refine rt0 Tryz.ntmps28 ?_
 exact ⟨rfl, hE⟩
theorem Under_ok (w : World) (a b : Value) (xs ys : Nm) (ha : Row w a (xs.map vs)) (hb : Row w b (ys.map vs)) (hx : LB xs) (hy : LB ys) (hxl : xs.length ≤ 9000000000000000000) (hyl : ys.length ≤ 9000000000000000000) :
  Fn Tryz.prog 26 #[a, b] w (fun v w' => v = .bool (under xs ys) ∧ Ext w w') := by
 have hb0 := hb
 obtain ⟨a, ca, rfl, hca, hla⟩ := ha
 obtain ⟨b, cb, rfl, hcb, hlb⟩ := hb
 simp only [List.length_map] at *
 refine enter Tryz.func26 Tryz.ntmps26 rfl rfl ?_
 repeat refine c_r ?_
 refine rg0 ?_
 repeat refine c_r ?_
 refine rq ?_; intro gd K hgd hK
 have hg5 : ∀ n σ b, wantV gd n σ (some (5, b)) = boolIs (ev n σ (.tmp 10)) b := (fun n σ b => by rw [wantV_some, show gd 5 = some 10 from (by rw [hgd]; rfl)]; rfl)
 by_cases h : (ys.length : Int) ≤ xs.length
 ·try simp (disch := first | omega | assumption | rfl) only [↓reduceIte, go_sem, Nat.reduceLT, Nat.reduceEqDiff, Nat.reduceSub, decide_eq_true h, ↓hg5]
  have hd : ((xs.length : Int) - ys.length).toNat = xs.length - ys.length := by omega
  have hcut := Row.tail (l := xs.map vs) (by simp) hca (fun j hj => by rw [hla j (by simpa using hj)]) (lo := xs.length - ys.length) (by omega)
  rw [← List.map_drop] at hcut
  rw [hd]
  refine Fn.mono (Same_ok w _ _ _ _ hcut hb0 (hx.drop _) hy (by simp; omega) hyl) ?_
  rintro _ w1 ⟨rfl, hE⟩
  try simp (disch := first | omega | assumption | rfl) only [↓reduceIte, go_sem, Nat.reduceLT, Nat.reduceEqDiff, Nat.reduceSub, decide_eq_true h, ↓hg5]
  refine hK _ _ ?_; clear hK hgd; clear K; try clear gd
  repeat refine c_r ?_
  refine rt0 Tryz.ntmps26 ?_
  exact ⟨by simp [under]; omega, hE⟩
 ·try simp (disch := first | omega | assumption | rfl) only [↓reduceIte, go_sem, Nat.reduceLT, Nat.reduceEqDiff, Nat.reduceSub, decide_eq_false h, ↓hg5]
  refine hK _ _ ?_; clear hK hgd; clear K; try clear gd
  repeat refine c_r ?_
  refine rt0 Tryz.ntmps26 ?_
  exact ⟨by simp [under]; omega, Keep.refl _ _⟩
theorem Fold_ok (w : World) (a : Value) (xs : Nm) (ha : Row w a (xs.map vs)) (hx : LB xs) (hxl : xs.length ≤ 1000000000000) :
  Fn Tryz.prog 29 #[a] w (fun v w' => Row w' v ((foldN xs).map vs) ∧ Ext w w') := by
 obtain ⟨a, ca, rfl, hca, hla⟩ := ha
 simp only [List.length_map] at *
 refine enter Tryz.func29 Tryz.ntmps29 rfl rfl ?_
 repeat refine c_r ?_
 refine rg0 ?_
 repeat refine c_r ?_
 refine rq ?_; intro gd K hgd hK
 try simp (disch := first | omega | assumption | rfl) only [↓reduceIte, go_sem, Nat.reduceLT, Nat.reduceEqDiff, Nat.reduceSub]
 refine op_makeSlice (n := xs.length) rfl rfl rfl rfl (vq0) (vq0) (by show 16 * _ ≤ _; omega) (by omega) rfl ?_
 try simp (disch := first | omega | assumption | rfl) only [↓reduceIte, go_sem, Nat.reduceLT, Nat.reduceEqDiff, Nat.reduceSub]
 refine hK _ _ ?_; clear hK hgd; clear K; try clear gd
 have hb1 := new_block w (.cells (madeCells #[vs []] xs.length) 9 (0, 0))
 have hE1 := Ext.alloc w (.cells (madeCells #[vs []] xs.length) 9 (0, 0))
 have hs1 := size_madeCells #[vs []] xs.length
 revert hb1 hE1 hs1
 generalize (madeCells #[vs []] xs.length) = cur1
 intro hb1 hE1 hs1
 repeat (first | refine c_r ?_ | refine rg0 ?_)
 refine W_loop (fun m σ ds A => ds = [] ∧ ∃ i, i + m = xs.length ∧ σ 11 = vi i ∧ σ 10 = vi xs.length ∧ σ 9 = .slice a xs.length ca ∧ σ 3 = .slice (some ⟨w.heap.size, 0, Option.none⟩) xs.length xs.length ∧ Ext w A ∧
  ∃ cur : Array Value, cur.size = xs.length ∧ cur.toList.take i = (foldN (xs.take i)).map vs ∧ A.heap[w.heap.size]? = some (.cells cur 9 (0, 0))) xs.length ?_ ?_
 ·refine ⟨rfl, 0, by omega, ?_, ?_, ?_, ?_, hE1, cur1, hs1, by simp [foldN], hb1⟩ <;> simp only [↓reduceIte, go_sem, Nat.reduceLT, Nat.reduceEqDiff, Nat.reduceSub] <;> rfl
 ·rintro m σ ds A ⟨rfl, i, him, h11, h10, h9, h3, hE, cu, hcu, hpre, hrow⟩
  repeat refine c_r ?_
  refine rq ?_; intro gd K hgd hK; simp (disch := first | omega | assumption | rfl) only [↓reduceIte, go_sem, Nat.reduceLT, Nat.reduceEqDiff, Nat.reduceSub, h11, h10]; refine hK _ _ ?_; clear hK hgd; clear K gd
  repeat refine c_r ?_
  refine wc0 ?_ ?_
  ·intro hlt
   simp only [decide_eq_true_eq] at hlt
   have hsa : a.isSome = true := some_of_cellO (hla i (by omega))
   have hla' := fun j h => cellO_ext hE (hla j h)
   repeat refine c_r ?_
   refine rq ?_; intro gd K hgd hK; simp (disch := first | omega | assumption | rfl) only [↓reduceIte, go_sem, Nat.reduceLT, Nat.reduceEqDiff, Nat.reduceSub, h11, h9, hla', List.getElem_map]; refine hK _ _ ?_; clear hK hgd; clear K gd
   repeat refine c_r ?_
   refine rq ?_; intro gd K hgd hK
   try simp (disch := first | omega | assumption | rfl) only [↓reduceIte, go_sem, Nat.reduceLT, Nat.reduceEqDiff, Nat.reduceSub, h3]
   refine Fn.mono (LFold_ok _ _ (LB.get hx _)) ?_
   rintro _ w5 ⟨rfl, hE5⟩
   try simp (disch := first | omega | assumption | rfl) only [↓reduceIte, go_sem, Nat.reduceLT, Nat.reduceEqDiff, Nat.reduceSub, h3]
   refine st_one rfl rfl rfl ((hE5.block _ (by have := hE.size; have := (Array.getElem?_eq_some_iff.1 hrow).1; omega) (fun h => h)).trans hrow) (by omega) (by simp) ?_
   intro w6 hsz6 hb6 hk6
   refine hK _ _ ?_; clear hK hgd; clear K; try clear gd
   repeat refine c_r ?_
   refine rq ?_; intro gd K hgd hK; simp (disch := first | omega | assumption | rfl) only [↓reduceIte, go_sem, Nat.reduceLT, Nat.reduceEqDiff, Nat.reduceSub, h11]; refine hK _ _ ?_; clear hK hgd; clear K gd
   repeat refine c_r ?_
   refine ⟨m - 1, by omega, rfl, i + 1, by omega, by simp only [↓reduceIte, go_sem, Nat.reduceLT, Nat.reduceEqDiff, Nat.reduceSub]; rfl, (vq1 h10), (vq1 h9), (vq1 h3), Keep.to_ext (hE.trans hE5) rfl (fun b hb => by omega) hk6, _, by simpa using hcu, ?_, hb6⟩
   rw [foldN_take (by omega), Array.toList_setIfInBounds, take_succ' (by simp; omega), List.take_set_of_le (by omega), hpre, List.map_append]
   simp
  ·intro hge
   simp only [decide_eq_false_iff_not] at hge
   repeat refine c_r ?_
   refine rg1 h3 ?_
   repeat refine c_r ?_
   refine rt0 Tryz.ntmps29 ?_
   refine ⟨?_, hE⟩
   rw [List.take_of_length_le (l := xs) (by omega), List.take_of_length_le (by simp; omega)] at hpre
   refine ⟨_, _, by rw [List.length_map, foldN_len], by simp [foldN_len], fun j hj => ?_⟩
   rw [adr_some]
   show A.cell? _ = _
   rw [cell_of hrow, Nat.zero_add, ← Array.getElem?_toList, hpre, List.getElem?_eq_getElem hj]
theorem Child_ok (w : World) (b : Value) (l : List UInt8) (xs : Nm) (hb : Row w b (xs.map vs)) (hxl : xs.length ≤ 1000000000000) :
  Fn Tryz.prog 133 #[vs l, b] w (fun v w' => RowB w.heap.size w' v ((l :: xs).map vs) ∧ Ext w w') := by
 have hb0 := hb
 obtain ⟨b, cb, rfl, hcb, hlb⟩ := hb
 simp only [List.length_map] at *
 refine enter Tryz.func133 Tryz.ntmps133 rfl rfl ?_
 repeat refine c_r ?_
 refine rg0 ?_
 repeat refine c_r ?_
 refine rq ?_; intro gd K hgd hK
 try simp (disch := first | omega | assumption | rfl) only [↓reduceIte, go_sem, Nat.reduceLT, Nat.reduceEqDiff, Nat.reduceSub]
 have hbs : bsC Tryz.prog 23 1 [(0, vs l)] = some (9, #[vs l]) := bsC_one (z := vs []) rfl rfl rfl rfl rfl
 unfold bsL bsK
 rw [hbs]
 simp only []
 have hown : (w.alloc (.cells #[vs l] 9)).ownsRow w.heap.size 9 1 (.slice (some ⟨w.heap.size, 0, Option.none⟩) 1 1) 1 [vs l] :=
  ⟨rfl, .inr ⟨w.heap.size, 1, #[vs l], rfl, Nat.le_refl _, new_block w _, Nat.le_refl _, by decide, rfl, rfl⟩⟩
 try simp (disch := first | omega | assumption | rfl) only [↓reduceIte, go_sem, Nat.reduceLT, Nat.reduceEqDiff, Nat.reduceSub]
 refine op_append (P := Tryz.prog) (e := 9) (size := 1) (bytes := 16) (m := xs.length) rfl rfl rfl rfl rfl rfl (by decide) (vq0) (by simp only [↓reduceIte, go_sem, Nat.reduceLT, Nat.reduceEqDiff, Nat.reduceSub]; rfl) hown (by simpa using Src1.of_row (hb0.ext (Ext.alloc w _))) ?_ ?_ ?_ (by simp) ?_
 ·intro q hq
  obtain ⟨s, _, rfl⟩ := List.mem_map.1 hq
  rfl
 ·simp [maxLen]; omega
 ·omega
 intro v' w' hown' hgr _
 try simp (disch := first | omega | assumption | rfl) only [↓reduceIte, go_sem, Nat.reduceLT, Nat.reduceEqDiff, Nat.reduceSub]
 refine hK _ _ ?_; clear hK hgd; clear K; try clear gd
 repeat refine c_r ?_
 refine rt0 Tryz.ntmps133 ?_
 exact ⟨by simpa using RowB.of_owns hown', Keep.to_ext (Ext.alloc w _) rfl (fun b hb => by simp [Value.ownBlock] at hb; omega) hgr⟩
theorem KeepB.to_ext {n0 : Nat} {C : Nat → Prop} {w0 w x : World} (h0 : Ext w0 w) (h : KeepB n0 C w x) (hn : w0.heap.size ≤ n0) (hC : ∀ b, C b → w0.heap.size ≤ b) : Ext w0 x :=
  ⟨h.os.trans h0.os, h.tape.trans h0.tape, h.output.trans h0.output, Nat.le_trans h0.size h.size,
   fun b hb _ => (h.block b (by omega) (fun hc => by have := hC b hc; omega)).trans (h0.block b hb (fun x => x)), Nat.le_trans h0.drawn h.drawn⟩
abbrev cmpL : Lab → Lab → Int := Lib.compareBytes
theorem u8_lt_iff {a b : UInt8} : a < b ↔ a.toNat < b.toNat := UInt8.lt_iff_toNat_lt
theorem cmpL_self : ∀ a : Lab, cmpL a a = 0
 | [] => rfl
 | a :: l => by
  show (if a < a then _ else if a < a then _ else cmpL l l) = 0
  have h : ¬ a < a := by rw [u8_lt_iff]; omega
  rw [if_neg h, if_neg h]; exact cmpL_self l
theorem cmpL_neg : ∀ a b : Lab, cmpL b a = - cmpL a b
 | [], [] => rfl
 | [], _ :: _ => rfl
 | _ :: _, [] => rfl
 | a :: l, b :: m => by
  show (if b < a then _ else if a < b then _ else cmpL m l) = - (if a < b then (-1 : Int) else if b < a then 1 else cmpL l m)
  by_cases h1 : a < b
  ·have h2 : ¬ b < a := by rw [u8_lt_iff] at *; omega
   rw [if_neg h2, if_pos h1, if_pos h1]; rfl
  ·by_cases h2 : b < a
   ·rw [if_pos h2, if_neg h1, if_pos h2]
   ·rw [if_neg h2, if_neg h1, if_neg h1, if_neg h2]; exact cmpL_neg l m
theorem cmpL_zero : ∀ {a b : Lab}, cmpL a b = 0 → a = b
 | [], [], _ => rfl
 | [], _ :: _, h => by cases h
 | _ :: _, [], h => by cases h
 | a :: l, b :: m, h => by
  change (if a < b then (-1 : Int) else if b < a then 1 else cmpL l m) = 0 at h
  by_cases h1 : a < b
  ·rw [if_pos h1] at h; cases h
  ·by_cases h2 : b < a
   ·rw [if_neg h1, if_pos h2] at h; cases h
   ·rw [if_neg h1, if_neg h2] at h
    have e : a = b := by
     apply UInt8.toNat_inj.1
     rw [u8_lt_iff] at *; omega
    rw [e, cmpL_zero h]
theorem cmpL_trans : ∀ {a b c : Lab}, cmpL a b ≤ 0 → cmpL b c ≤ 0 → cmpL a c ≤ 0
 | [], _, [], _, _ => Int.le_refl _
 | [], _, _ :: _, _, _ => by show (-1 : Int) ≤ 0; omega
 | a :: l, [], _, h, _ => by exact absurd h (by show ¬ (1 : Int) ≤ 0; omega)
 | a :: l, b :: m, [], _, h => by exact absurd h (by show ¬ (1 : Int) ≤ 0; omega)
 | a :: l, b :: m, c :: n, h1, h2 => by
  change (if a < b then (-1 : Int) else if b < a then 1 else cmpL l m) ≤ 0 at h1
  change (if b < c then (-1 : Int) else if c < b then 1 else cmpL m n) ≤ 0 at h2
  show (if a < c then (-1 : Int) else if c < a then 1 else cmpL l n) ≤ 0
  by_cases e1 : a < b
  ·have e3 : ¬ c < b ∨ c < b := by by_cases h : c < b <;> simp [h]
   by_cases e2 : c < b
   ·have e4 : ¬ b < c := by rw [u8_lt_iff] at *; omega
    rw [if_neg e4, if_pos e2] at h2; omega
   ·have : a < c := by rw [u8_lt_iff] at *; omega
    rw [if_pos this]; omega
  ·by_cases e2 : b < a
   ·rw [if_neg e1, if_pos e2] at h1; omega
   ·have e : a = b := by
     apply UInt8.toNat_inj.1
     rw [u8_lt_iff] at *; omega
    subst e
    rw [if_neg e1, if_neg e2] at h1
    by_cases e3 : a < c
    ·rw [if_pos e3]; omega
    ·by_cases e4 : c < a
     ·rw [if_neg e3, if_pos e4] at h2; omega
     ·rw [if_neg e3, if_neg e4] at h2
      rw [if_neg e3, if_neg e4]
      exact cmpL_trans h1 h2
end Go.Proofs.YtopbbjdembnfdaaGreat
