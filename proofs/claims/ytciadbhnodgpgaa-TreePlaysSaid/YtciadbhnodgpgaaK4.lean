/-
  Regions by equations, a function's entry and its end, look-ups in maps.
  Conditions: none; these are lemmas over any program.
-/
import Derived.Test.YtciadbhnodgpgaaK3
set_option linter.unusedVariables false
set_option linter.unusedSimpArgs false
set_option linter.defProp false
namespace Go.Proofs.Ytciadbhnodgpgaa
open Go

/-! a look-up in a map whose keys are texts, numbers or bools -/
def lkV (P : Program) (w : World) (t : TypeId) (m k : Value) (ok : Bool) : Option Value :=
  match tyU P t, m with
  | some (.map kt et), .map Option.none => match tyU P kt, tyZ P et with
    | some d, some z => match Instr.findNow d k [] 0, d with
      | some Option.none, .string => some (if ok then .tuple #[z, .bool false] else z)
      | _, _ => Option.none
    | _, _ => Option.none
  | some (.map kt et), .map (some r) => match tyU P kt, tyZ P et, w.heap[r]? with
    | some d, some z, some (.map es _) => match Instr.findNow d k es.toList 0, d with
      | some (some (_, v)), .string => some (if ok then .tuple #[v, .bool true] else v)
      | some Option.none, .string => some (if ok then .tuple #[z, .bool false] else z)
      | _, _ => Option.none
    | _, _, _ => Option.none
  | _, _ => Option.none

theorem checkKey_string {P : Program} {w : World} {kt : TypeId} {k : Value} {e : Bool} (h : P.underlying kt = some .string) (d : Nat) :
    (Instr.checkKey e (d + 1) kt k).run P w = .ok () w := by
  simp [Instr.checkKey, underlying, program, Sem.run, h]

theorem lkV_run {P : Program} {w : World} {t : TypeId} {m k v : Value} {ok : Bool} (h : lkV P w t m k ok = some v) : (Instr.lookup t m k ok).run P w = .ok v w := by
  have hck : ∀ kt e, P.underlying kt = some .string → (Instr.checkKey e 10000 kt k).run P w = .ok () w := fun kt e hk => checkKey_string hk 9999
  unfold lkV at h
  split at h
  · rename_i kt et hu
    split at h
    · rename_i d z hd hz
      split at h
      · rename_i hf
        cases h
        have hz' : (zeroValue et).run P w = .ok z w := by
          unfold tyZ at hz
          cases hi : P.info? et with
          | none => rw [hi] at hz; cases hz
          | some inf => rw [hi] at hz; simp at hz; simp [zeroValue, typeInfo, program, Sem.run, hi, hz]
        have hck' := fun e => hck kt e hd
        simp only [Instr.lookup, Sem.run_bind, underlying, program, Sem.run, show P.underlying t = _ from hu, Result.andThen_ok, Sem.run_pure]
        simp only [hck', Sem.run_bind, Result.andThen_ok, Instr.findKey, underlying, program, Sem.run, show P.underlying kt = _ from hd, Sem.run_pure]
        simp [Instr.findNow, hz']
      · cases h
    · cases h
  · rename_i kt et r hu
    split at h
    · rename_i d z es c hd hz hr
      have hz' : (zeroValue et).run P w = .ok z w := by
        unfold tyZ at hz
        cases hi : P.info? et with
        | none => rw [hi] at hz; cases hz
        | some inf => rw [hi] at hz; simp at hz; simp [zeroValue, typeInfo, program, Sem.run, hi, hz]
      split at h
      · rename_i i u hf
        cases h
        have hck' := fun e => hck kt e hd
        simp only [Instr.lookup, Sem.run_bind, underlying, program, getObj, hr, Sem.run, show P.underlying t = _ from hu, Result.andThen_ok, Sem.run_pure]
        simp only [hck', Sem.run_bind, Result.andThen_ok, Instr.findKey, underlying, program, Sem.run, show P.underlying kt = _ from hd, Sem.run_pure, hf]
      · rename_i hf
        cases h
        have hck' := fun e => hck kt e hd
        simp only [Instr.lookup, Sem.run_bind, underlying, program, getObj, hr, Sem.run, show P.underlying t = _ from hu, Result.andThen_ok, Sem.run_pure]
        simp only [hck', Sem.run_bind, Result.andThen_ok, Instr.findKey, underlying, program, Sem.run, show P.underlying kt = _ from hd, Sem.run_pure, hf, hz']
      · cases h
    · cases h
  · cases h

/-! quiet operations: one value, whatever has been laid since -/
def okV (v : Option Value) (k : Value → Prop) : Prop :=
  match v with
  | some v => k v
  | Option.none => False

theorem okV_congr {v v' : Option Value} {k : Value → Prop} (h : v = v') : okV v k = okV v' k := by rw [h]

/-- the address lies in no block of S -/
def offS (S : Nat → Prop) (p : Option Addr) : Prop := ∀ a, p = some a → ¬ S a.block
theorem offS_no (p : Option Addr) : offS NoS p = True := by simp [offS, NoS]

def quV (P : Program) (S : Nat → Prop) (o : Oper) (ρ : Operand → Value) (w : World) (k : Value → Prop) : Prop :=
  match o.op with
  | .move x => k (ρ x)
  | .assign x => k (ρ x)
  | .pick c a b => match ρ c with | .bool t => k (bif t then ρ a else ρ b) | _ => False
  | .binOp op t x y _ => okV (binV P op t (ρ x) (ρ y)) k
  | .unOp op _ x => okV (unV op (ρ x)) k
  | .load t x => match ρ x with | .pointer p => offS S p ∧ okV (ldP P w t p) k | _ => False
  | .indexAddr t x i => okV (ixA P t (ρ x) (ρ i)) k
  | .index t x i => okV (ixS P t (ρ x) (ρ i)) k
  | .slice t x lo hi mx => okV (slV P t (ρ x) (lo.map ρ) (hi.map ρ) (mx.map ρ)) k
  | .extract x i => okV (exV i (ρ x)) k
  | .convert s t x => okV (cvV P s t (ρ x)) k
  | .fieldAddr s x f => okV (fdA P s (ρ x) f) k
  | .nilCheck x => match ρ x with | .pointer p => p.isSome = true ∧ k (.pointer p) | _ => False
  | .makeFunc fn f c => k (.func fn (f.map ρ) (c.map ρ))
  | .build t parts => fieldsKnown P t = true ∧ okV (bdV P t (parts.toList.map fun p => (p.1, ρ p.2))) k
  | .lookup t m key ok => (∀ r, ρ m = .map (some r) → ¬ S r) ∧ okV (lkV P w t (ρ m) (ρ key) ok) k
  | .call c => match builtinLen c with
      | some (x, t) => okV (lenV P t (ρ x)) k
      | Option.none => False
  | _ => False

theorem okV_elim {v : Option Value} {k : Value → Prop} (h : okV v k) : ∃ u, v = some u ∧ k u := by
  cases v with
  | none => exact h.elim
  | some u => exact ⟨u, rfl, h⟩

theorem cell_keep {S : Nat → Prop} {w x : World} (hk : Keep S w x) {a : Addr} (hS : ¬ S a.block) {v : Value} (h : w.cell? a = some v) : x.cell? a = some v := by
  have hlt := World.block_lt_of_cell? (w := w) (h := h)
  rw [← h]
  exact World.cell?_of_block (w := w) (hk.block a.block hlt hS)

theorem cellsV_keep {S : Nat → Prop} {w x : World} (hk : Keep S w x) {a : Addr} (hS : ¬ S a.block) : ∀ (n i : Nat) (l : List Value), cellsV w a i n = some l → cellsV x a i n = some l
  | 0, _, _, h => h
  | n + 1, i, l, h => by
    unfold cellsV at h ⊢
    split at h
    · rename_i v l' h1 h2
      cases h
      have hb : (a.add i).block = a.block := by unfold Addr.add; split <;> rfl
      rw [cell_keep hk (by rw [hb]; exact hS) h1, cellsV_keep hk hS n (i + 1) l' h2]
    · cases h

theorem ldV_keep {P : Program} {S : Nat → Prop} {w x : World} (hk : Keep S w x) {t : TypeId} {a : Addr} (hS : ¬ S a.block) {v : Value} (h : ldV P w t a = some v) : ldV P x t a = some v := by
  unfold ldV at h ⊢
  cases hA : tyA P t with
  | true =>
    rw [hA] at h
    simp only [cond_true, Option.map_eq_some_iff] at h ⊢
    obtain ⟨l, hl, rfl⟩ := h
    exact ⟨l, cellsV_keep hk hS _ _ _ hl, rfl⟩
  | false =>
    rw [hA] at h
    simp only [cond_false] at h ⊢
    cases hs : (tyU P t).isSome with
    | false => rw [hs] at h; cases h
    | true => rw [hs] at h; simp only [cond_true] at h ⊢; exact cell_keep hk hS h

theorem lkV_keep {P : Program} {S : Nat → Prop} {w x : World} (hk : Keep S w x) {t : TypeId} {m key v : Value} {ok : Bool} (hS : ∀ r, m = .map (some r) → ¬ S r)
    (h : lkV P w t m key ok = some v) : lkV P x t m key ok = some v := by
  unfold lkV at h ⊢
  split at h
  · exact h
  · rename_i kt et r hu
    have : ∀ es c, w.heap[r]? = some (.map es c) → x.heap[r]? = some (.map es c) := fun es c hr => by
      rw [← hr]; exact hk.block r (Array.getElem?_eq_some_iff.1 hr).1 (hS r rfl)
    split at h
    · rename_i d z es c hd hz hr
      rw [this es c hr]
      simp only [hu, hd, hz]
      exact h
    · cases h
  · cases h

theorem ldP_keep {P : Program} {S : Nat → Prop} {w x : World} (hk : Keep S w x) {t : TypeId} {p : Option Addr} (hS : offS S p) {v : Value} (h : ldP P w t p = some v) : ldP P x t p = some v := by
  simp only [ldP, Option.bind_eq_some_iff] at h ⊢
  obtain ⟨a, rfl, h⟩ := h
  exact ⟨a, rfl, ldV_keep hk (hS a rfl) h⟩

theorem quV_sound {P : Program} {S : Nat → Prop} {o : Oper} {ρ : Operand → Value} {w : World} {k : Value → Prop} (h : quV P S o ρ w k) :
    ∃ v, (∀ x, Keep S w x → opW P o ρ x (fun v' w' => v' = v ∧ w' = x)) ∧ k v := by
  obtain ⟨dst, op, ty, ps, af, g⟩ := o
  unfold quV at h
  dsimp only at h
  split at h
  · exact ⟨_, fun x _ => ⟨rfl, rfl⟩, h⟩
  · exact ⟨_, fun x _ => ⟨rfl, rfl⟩, h⟩
  · split at h
    · rename_i t ht
      exact ⟨_, fun x _ => opV_sound (by unfold opV; dsimp only; rw [ht]; exact ⟨rfl, rfl⟩), h⟩
    · exact h.elim
  · obtain ⟨u, hu, hk⟩ := okV_elim h
    exact ⟨u, fun x _ => opV_sound (by unfold opV; dsimp only; rw [hu]; exact ⟨rfl, rfl⟩), hk⟩
  · obtain ⟨u, hu, hk⟩ := okV_elim h
    exact ⟨u, fun x _ => opV_sound (by unfold opV; dsimp only; rw [hu]; exact ⟨rfl, rfl⟩), hk⟩
  · split at h
    · rename_i p ha
      obtain ⟨hS, h⟩ := h
      obtain ⟨u, hu, hk⟩ := okV_elim h
      refine ⟨u, fun x hx => opV_sound ?_, hk⟩
      have this := ldP_keep hx hS hu
      unfold opV; dsimp only; rw [ha]; dsimp only; rw [this]; exact ⟨rfl, rfl⟩
    · exact h.elim
  · obtain ⟨u, hu, hk⟩ := okV_elim h
    exact ⟨u, fun x _ => opV_sound (by unfold opV; dsimp only; rw [hu]; exact ⟨rfl, rfl⟩), hk⟩
  · obtain ⟨u, hu, hk⟩ := okV_elim h
    exact ⟨u, fun x _ => opV_sound (by unfold opV; dsimp only; rw [hu]; exact ⟨rfl, rfl⟩), hk⟩
  · obtain ⟨u, hu, hk⟩ := okV_elim h
    exact ⟨u, fun x _ => opV_sound (by unfold opV; dsimp only; rw [hu]; exact ⟨rfl, rfl⟩), hk⟩
  · obtain ⟨u, hu, hk⟩ := okV_elim h
    exact ⟨u, fun x _ => opV_sound (by unfold opV; dsimp only; rw [hu]; exact ⟨rfl, rfl⟩), hk⟩
  · obtain ⟨u, hu, hk⟩ := okV_elim h
    exact ⟨u, fun x _ => opV_sound (by unfold opV; dsimp only; rw [hu]; exact ⟨rfl, rfl⟩), hk⟩
  · obtain ⟨u, hu, hk⟩ := okV_elim h
    exact ⟨u, fun x _ => opV_sound (by unfold opV; dsimp only; rw [hu]; exact ⟨rfl, rfl⟩), hk⟩
  · split at h
    · rename_i p ha
      exact ⟨_, fun x _ => opV_sound (by unfold opV; dsimp only; rw [ha]; exact ⟨h.1, rfl, rfl⟩), h.2⟩
    · exact h.elim
  · exact ⟨_, fun x _ => opV_sound (by unfold opV; exact ⟨rfl, rfl⟩), h⟩
  · obtain ⟨hf, h⟩ := h
    obtain ⟨u, hu, hk⟩ := okV_elim h
    exact ⟨u, fun x _ => opV_sound (by unfold opV; dsimp only; rw [hu]; exact ⟨hf, rfl, rfl⟩), hk⟩
  · obtain ⟨hS, h⟩ := h
    obtain ⟨u, hu, hk⟩ := okV_elim h
    exact ⟨u, fun x hx => opR_val (lkV_run (lkV_keep hx hS hu)) ⟨rfl, rfl⟩, hk⟩
  · rename_i c
    split at h
    · rename_i x t hb
      obtain ⟨u, hu, hk⟩ := okV_elim h
      refine ⟨u, fun x _ => opV_sound ?_, hk⟩
      have hc : ∀ f, c.callee ≠ .value f := by
        intro f hf
        unfold builtinLen at hb
        rw [hf] at hb
        simp at hb
      unfold opV
      dsimp only
      split
      · rename_i f hf; exact absurd hf (hc f)
      · rw [hb]; dsimp only; rw [hu]; exact ⟨rfl, rfl⟩
    · exact h.elim
  · exact h.elim

/-! ### rows -/
def nthO : List Oper → Nat → Option Oper
  | [], _ => Option.none
  | o :: _, 0 => some o
  | _ :: l, i + 1 => nthO l i

theorem nthO_eq : ∀ (l : List Oper) (i : Nat), nthO l i = l[i]?
  | [], _ => by simp [nthO]
  | o :: l, 0 => rfl
  | o :: l, i + 1 => by simp [nthO, nthO_eq l i]

def dstL (l : List Oper) (j : Nat) : Option Tmp := (nthO l j).bind (·.dst)

def ylV (gd : Nat → Option Tmp) (n : Nat) (σ : Sto) (j : Nat) : Option Bool :=
  match gd j with
  | some d => if d < n then (match σ d with | .bool b => some b | _ => Option.none) else Option.none
  | Option.none => Option.none

def wantV (gd : Nat → Option Tmp) (n : Nat) (σ : Sto) : Option (Nat × Bool) → Bool
  | Option.none => true
  | some (j, t) => match ylV gd n σ j with
    | some b => b == t
    | Option.none => false

theorem wantV_eq (ops : Array Oper) (n : Nat) (σ : Sto) (o : Oper) : Region.wanted o (yl ops n σ) = wantV (dstL ops.toList) n σ o.guard := by
  unfold Region.wanted wantV
  cases o.guard with
  | none => rfl
  | some p =>
    obtain ⟨j, t⟩ := p
    have : yl ops n σ j = ylV (dstL ops.toList) n σ j := by
      unfold yl ylV dstL
      rw [nthO_eq, Array.getElem?_toList]
      cases (ops[j]?).bind (·.dst) with
      | none => rfl
      | some d => dsimp only; split <;> first | rfl | (cases σ d <;> rfl)
    simp only [this]
    cases ylV (dstL ops.toList) n σ j <;> simp

def opsV (P : Program) (gd : Nat → Option Tmp) (n : Nat) : List Oper → Sto → World → (Sto → World → Prop) → Prop
  | [], σ, w, K => K σ w
  | o :: l, σ, w, K => if wantV gd n σ o.guard = true then opV P o (ev n σ) w (fun v w' => opsV P gd n l (putS σ o.dst v) w' K)
    else opsV P gd n l (putS σ o.dst undef) w K

theorem opV_mono {P : Program} {o : Oper} {ρ : Operand → Value} {w : World} {K K' : Value → World → Prop} (h : ∀ v w, K v w → K' v w)
    (hr : opV P o ρ w K) : opW P o ρ w K' := opW_mono h (opV_sound hr)

theorem opsV_sound {P : Program} {ops : Array Oper} {n : Nat} {K : Sto → World → Prop} : ∀ (l : List Oper) (σ : Sto) (w : World),
    opsV P (dstL ops.toList) n l σ w K → opsW P ops n l σ w K
  | [], _, _, h => h
  | o :: l, σ, w, h => by
    unfold opsV at h
    unfold opsW
    rw [wantV_eq]
    split at h
    · rename_i hw; rw [if_pos hw]; exact opV_mono (fun v w' hk => opsV_sound l _ _ hk) h
    · rename_i hw; rw [if_neg hw]; exact opsV_sound l _ _ h

def drawV (P : Program) (gd : Nat → Option Tmp) (ops : List Oper) (n : Nat) (S : Nat → Prop) (isB : Nat → Bool) : List (Nat × Bool) → Sto → World → (Sto → World → Prop) → Prop
  | [], σ, w, K => K σ w
  | (i, true) :: pl, σ, w, K => match nthO ops i with
    | some o => if wantV gd n σ o.guard = true then quV P S o (ev n σ) w (fun v => drawV P gd ops n S isB pl (putS σ o.dst v) w K)
      else drawV P gd ops n S isB pl (putS σ o.dst undef) w K
    | Option.none => False
  | (i, false) :: pl, σ, w, K => match nthO ops i with
    | some o => if wantV gd n σ o.guard = true then opV P o (ev n σ) w (fun v w' => (isB i = true ∨ Keep S w w') ∧ drawV P gd ops n S isB pl (putS σ o.dst v) w' K)
      else drawV P gd ops n S isB pl (putS σ o.dst undef) w K
    | Option.none => False

theorem drawV_sound {P : Program} {ops : Array Oper} {n : Nat} {S : Nat → Prop} {isB : Nat → Bool} {K : Sto → World → Prop} : ∀ (pl : List (Nat × Bool)) (σ : Sto) (w : World),
    drawV P (dstL ops.toList) ops.toList n S isB pl σ w K → drawW P ops n S isB pl σ w K
  | [], _, _, h => h
  | (i, true) :: pl, σ, w, h => by
    unfold drawV at h
    unfold drawW
    rw [nthO_eq] at h
    split at h
    · rename_i o ho
      have ho' : ops[i]? = some o := by simpa using ho
      have hd : dstAt ops i = o.dst := by simp [dstAt, ho']
      rw [hd]
      split at h
      · rename_i hw
        obtain ⟨v, hv, hk⟩ := quV_sound h
        refine ⟨v, fun x hx => ?_, drawV_sound pl _ _ hk⟩
        unfold qv
        rw [ho']
        dsimp only
        rw [wantV_eq, if_pos hw]
        exact hv x hx
      · rename_i hw
        refine ⟨undef, fun x _ => ?_, drawV_sound pl _ _ h⟩
        unfold qv
        rw [ho']
        dsimp only
        rw [wantV_eq, if_neg hw]
    · exact h.elim
  | (i, false) :: pl, σ, w, h => by
    unfold drawV at h
    unfold drawW opAt
    rw [nthO_eq] at h
    split at h
    · rename_i o ho
      have ho' : ops[i]? = some o := by simpa using ho
      rw [ho']
      dsimp only
      rw [wantV_eq]
      split at h
      · rename_i hw
        rw [if_pos hw]
        exact opV_mono (fun v w' ⟨h1, h2⟩ => ⟨h1, drawV_sound pl _ _ h2⟩) h
      · rename_i hw
        rw [if_neg hw]
        exact ⟨.inr (Keep.refl S w), drawV_sound pl _ _ h⟩
    · exact h.elim

section rules
variable {P : Program} {r : Option Nat} {n : Nat} {Q : Post} {σ : Sto} {ds : List Deferred} {w : World}

/-- a region in the order of the text; what follows stands behind K, the region's targets behind gd -/
theorem W_reg {id : Nat} {ops : Array Oper} (hd : noDefer ops = true)
    (h : ∀ (gd : Nat → Option Tmp) (K : Sto → World → Prop), gd = dstL ops.toList → (∀ σ' w', Q .normal σ' ds w' → K σ' w') → opsV P gd n ops.toList σ w K) :
    W P r n (.region id ops false) Q σ ds w :=
  W_region hd (opsV_sound _ _ _ (h _ _ rfl (fun _ _ h => h)))

/-- a region that draws its order, along a plan -/
theorem W_drw {id : Nat} {ops : Array Oper} (isB : Nat → Bool) (pl : List (Nat × Bool)) (S : Nat → Prop)
    (hm : P.follows .mixedOrders = true) (hok : drawOk ops isB pl = true)
    (h : ∀ (gd : Nat → Option Tmp) (K : Sto → World → Prop) (x : World), gd = dstL ops.toList → Keep S w x → x = w.drew → (∀ σ' w', Q .normal σ' ds w' → K σ' w') → drawV P gd ops.toList n S isB pl σ x K) :
    W P r n (.region id ops true) Q σ ds w :=
  W_draw isB pl S hm hok (drawV_sound _ _ _ (h _ _ _ rfl (Keep.drew S w) rfl (fun _ _ h => h)))

end rules

/-! ### entry and end -/
def resV (P : Program) (n : Nat) (σ : Sto) (w : World) : List ResultVar → Option (List Value)
  | [] => some []
  | .tmp t :: l => (resV P n σ w l).map fun r => (if t < n then σ t else undef) :: r
  | .cell a t :: l => match (if a < n then σ a else undef) with
    | .pointer (some x) => match ldV P w t x, resV P n σ w l with
      | some v, some r => some (v :: r)
      | _, _ => Option.none
    | _ => Option.none

def resT : List Value → Value
  | [v] => v
  | l => .tuple l.toArray

def resOne (tm : Array Value) : ResultVar → Sem Value
  | .tmp t => pure (tm.getD t undef)
  | .cell a t => do loadVar t (← asAddr (tm.getD a undef))

theorem asAddr_run {P : Program} {w : World} (x : Addr) : (asAddr (.pointer (some x))).run P w = .ok x w := rfl

theorem resV_run {P : Program} {n : Nat} {σ : Sto} {ds : List Deferred} {w : World} : ∀ (l : List ResultVar) (r : List Value), resV P n σ w l = some r →
    (l.mapM (resOne (act n σ ds).tmps)).run P w = .ok r w
  | [], r, h => by cases h; rfl
  | .tmp t :: l, r, h => by
    simp only [resV, Option.map_eq_some_iff] at h
    obtain ⟨r', hr', rfl⟩ := h
    have ih := resV_run (ds := ds) l r' hr'
    have e : (act n σ ds).tmps.getD t undef = if t < n then σ t else undef := by
      have := congrFun (act_eval n σ ds) (.tmp t); exact this
    simp only [List.mapM_cons, Sem.run_bind, resOne, Sem.run_pure, Result.andThen_ok, ih, e]
  | .cell a t :: l, r, h => by
    simp only [resV] at h
    have e : (act n σ ds).tmps.getD a undef = if a < n then σ a else undef := by
      have := congrFun (act_eval n σ ds) (.tmp a); exact this
    split at h
    · rename_i x hx
      split at h
      · rename_i v r' hv hr'
        cases h
        have ih := resV_run (ds := ds) l r' hr'
        simp only [List.mapM_cons, Sem.run_bind, resOne, e, hx, asAddr_run, Sem.run_pure, Result.andThen_ok, ldV_run hv, ih]
      · cases h
    · cases h

theorem results_run {P : Program} {n : Nat} {σ : Sto} {ds : List Deferred} {w : World} {fn : Func} {r : List Value} (h : resV P n σ w fn.results.toList = some r) :
    (results fn (act n σ ds).tmps).run P w = .ok (resT r) w := by
  have := resV_run (ds := ds) _ _ h
  have e : results fn (act n σ ds).tmps = (do let vs ← fn.results.mapM (resOne (act n σ ds).tmps); pure (if h : vs.size = 1 then vs[0] else .tuple vs)) := by
    unfold results
    congr 1
  rw [e, Sem.run_bind, Array.mapM_eq_mapM_toList, Sem.run_map, this]
  simp only [Result.andThen_ok, Sem.run_pure]
  congr 1
  match r with
  | [] => rfl
  | [v] => rfl
  | v :: u :: l => simp [resT]

/-- the world behind the marks: the blocks of the ranges over functions are shut -/
def shut (w : World) : List Deferred → World
  | [] => w
  | { target := .collected D, .. } :: ds => shut (w.putObj D (.deferred Option.none)) ds
  | _ :: ds => shut w ds

def marksOk (w : World) : List Deferred → Prop
  | [] => True
  | d :: ds => (∃ D, d = { target := .collected D, args := #[] } ∧ w.heap[D]? = some (.deferred (some [])) ∧ marksOk (w.putObj D (.deferred Option.none)) ds)

/-- a body's end: its results, read behind the marks -/
def retQ (P : Program) (fn : Func) (R : Value → World → Prop) : Post := fun e σ ds w =>
  (e = .normal ∨ e = .ret) ∧ marksOk w ds ∧ ∃ r, resV P fn.ntmps σ (shut w ds) fn.results.toList = some r ∧ R (resT r) (shut w ds)

theorem leaves_marks {P : Program} {fn : Func} {R : Value → World → Prop} {σ : Sto} {ds0 : List Deferred} : ∀ (ds : List Deferred) (w : World), marksOk w ds →
    (∃ r, resV P fn.ntmps σ (shut w ds) fn.results.toList = some r ∧ R (resT r) (shut w ds)) →
    LeavesInM (fw Option.none) 0 P fn (act fn.ntmps σ ds0).tmps (fun e w' => ∃ v, e = .returned v ∧ R v w') ds .returning w
  | [], w, _, ⟨r, hr, hR⟩ => ⟨resT r, results_run hr, resT r, rfl, hR⟩
  | d :: ds, w, hm, h => by
    obtain ⟨D, rfl, hD, hm'⟩ := hm
    refine ⟨by simp, .inl ⟨D, w.putObj D (.deferred Option.none), rfl, run_takeDeferred hD, leaves_marks ds _ hm' h⟩⟩

theorem enter {P : Program} {f : FuncId} {fn : Func} {c : Code} {args : Array Value} {w : World} {R : Value → World → Prop}
    {n : Nat} (hf : P.funcs[f]? = some fn) (hN : fn.ntmps = n) (hb : fn.body = some c) (hn : Nat.ble args.size fn.ntmps = true)
    (h : W P Option.none n c (retQ P fn R) (sto0 args) [] w) : Fn P f args w R := by
  subst hN
  refine callsIn_of_wp_marks hf hb trivial (wpIn_mono (Q := fun e a w => ∃ σ' ds', a = act fn.ntmps σ' ds' ∧ retQ P fn R e σ' ds' w) ?_ ?_) rfl
  · have : ({ tmps := args ++ Array.replicate (fn.ntmps - args.size) undef, defers := [] } : Act) = act fn.ntmps (sto0 args) [] := by
      unfold act sto0
      congr 1
      apply Array.ext
      · have := Nat.le_of_ble_eq_true hn; simp; omega
      · intro i h1 h2
        simp at h2
        simp only [Array.getElem_ofFn]
        by_cases hi : i < args.size
        · simp [hi, Array.getElem_append]
        · simp [hi, Array.getElem_append]
    rw [this]
    exact h
  · rintro e a w ⟨σ', ds', rfl, he, hm, hr⟩
    have := leaves_marks (P := P) (fn := fn) (R := R) (σ := σ') (ds0 := ds') ds' w hm hr
    rcases he with rfl | rfl
    · exact this
    · exact this

end Go.Proofs.Ytciadbhnodgpgaa
