/-
  The frame of the walks: a store in the place of the temporaries, one rule for each kind of code.
  Conditions: none; these are lemmas over any program.
-/
import Derived.RangeFuncRecord
import Derived.OrdersIn
import Derived.RangeFuncCalls
import Derived.Below
set_option linter.unusedVariables false
set_option linter.unusedSimpArgs false
set_option linter.defProp false
namespace Go.Proofs.Ytciadbhnodgpgaa
open Go

def fw (r : Option Nat) : Fence := { fn := fun _ => True, depth := Option.none, alive := false, round := r }

abbrev Sto := Nat → Value

def upd (σ : Sto) (d : Nat) (v : Value) : Sto := fun i => if i = d then v else σ i

theorem upd_same (σ : Sto) (d : Nat) (v : Value) : upd σ d v d = v := by simp [upd]
theorem upd_ne (σ : Sto) (d : Nat) (v : Value) (i : Nat) (h : i ≠ d) : upd σ d v i = σ i := by simp [upd, h]

def act (n : Nat) (σ : Sto) (ds : List Deferred) : Act := ⟨Array.ofFn (n := n) (fun i => σ i), ds⟩

def ev (n : Nat) (σ : Sto) : Operand → Value
  | .tmp t => if t < n then σ t else undef
  | .const v => v
  | .global g => .pointer (some ⟨g, 0, Option.none⟩)
  | .func f => .func (.func f) #[] #[]

theorem act_eval (n : Nat) (σ : Sto) (ds : List Deferred) : (act n σ ds).eval = ev n σ := by
  funext x
  cases x with
  | tmp t =>
    simp only [Act.eval, act, ev]
    by_cases h : t < n
    · simp [h]
    · simp [h]
  | const v => rfl
  | global g => rfl
  | func f => rfl

def putS (σ : Sto) : Option Tmp → Value → Sto
  | some d, v => upd σ d v
  | Option.none, _ => σ

theorem act_set (n : Nat) (σ : Sto) (ds : List Deferred) (d : Nat) (v : Value) :
    (act n σ ds).tmps.setIfInBounds d v = (act n (upd σ d v) ds).tmps := by
  apply Array.ext
  · simp [act]
  · intro i h1 h2
    simp [act] at h1 h2 ⊢
    by_cases h : d = i
    · subst h; simp [upd]
    · have h' : (Array.ofFn (n := n) (fun i => σ i))[i]'(by simpa using h2) = σ i := by simp
      rw [Array.getElem_setIfInBounds_ne (by simpa using h2) h, h']
      simp [upd, Ne.symm h]

theorem act_put (n : Nat) (σ : Sto) (ds : List Deferred) (d : Option Tmp) (v : Value) :
    (act n σ ds).put d v = act n (putS σ d v) ds := by
  cases d with
  | none => rfl
  | some d => simp only [Act.put, putS, act_set]; rfl

/-- what a region's operation number j has yielded, read off the store -/
def yl (ops : Array Oper) (n : Nat) (σ : Sto) (j : Nat) : Option Bool :=
  match (ops[j]?).bind (·.dst) with
  | some d => if d < n then (match σ d with | .bool b => some b | _ => Option.none) else Option.none
  | Option.none => Option.none

theorem act_yielded (ops : Array Oper) (n : Nat) (σ : Sto) (ds : List Deferred) :
    yielded ops (act n σ ds).tmps = yl ops n σ := by
  funext j
  unfold yielded yl
  cases h : (ops[j]?).bind (·.dst) with
  | none => rfl
  | some d =>
    simp only [Option.bind_some, act]
    by_cases hd : d < n
    · simp only [hd, if_true]
      have : (Array.ofFn (n := n) (fun i => σ i))[d]? = some (σ d) := by simp [hd]
      rw [this]
      cases σ d <;> rfl
    · simp [hd]

/-- one operation: what it must come to -/
def opR (P : Program) (K : Value → World → Prop) : Result Next → Prop
  | .ok (.value v) w' => K v w'
  | .ok .skip w' => K undef w'
  | .ok (.enter f args) w' => CallsIn (fw Option.none) 0 P f args w' (fun e w'' => ∃ v, e = .returned v ∧ K v w'')
  | .ok (.round l f tmps assign body) w' => RoundIn (fw Option.none) 0 P l f tmps assign body w' (fun e w'' => ∃ v, e = .returned v ∧ K v w'')
  | .ok (.row row args) w' => RowsIn (fw Option.none) 0 P row args w' K
  | _ => False

def opW (P : Program) (o : Oper) (ρ : Operand → Value) (w : World) (K : Value → World → Prop) : Prop :=
  opR P K ((execOp ρ o).run P w)

theorem opR_mono {P : Program} {K K' : Value → World → Prop} (h : ∀ v w, K v w → K' v w) {r : Result Next} (hr : opR P K r) : opR P K' r := by
  cases r with
  | ok n w =>
    cases n <;> simp only [opR] at hr ⊢ <;> first
      | exact h _ _ hr
      | exact CallsIn.mono hr fun e w ⟨v, he, hk⟩ => ⟨v, he, h _ _ hk⟩
      | exact RoundIn.mono hr fun e w ⟨v, he, hk⟩ => ⟨v, he, h _ _ hk⟩
      | exact RowsIn.mono hr fun v w hk => h _ _ hk
  | halt x w => cases x <;> simp only [opR] at hr

theorem opW_mono {P : Program} {o : Oper} {ρ : Operand → Value} {w : World} {K K' : Value → World → Prop} (h : ∀ v w, K v w → K' v w)
    (hr : opW P o ρ w K) : opW P o ρ w K' := opR_mono h hr

theorem fw_depth {r : Option Nat} {x : Prop} : ((fw r).depth.isSome = true → x) := fun h => by simp [fw] at h
theorem fw_fn {r : Option Nat} (f : FuncId) : (fw r).fn f := trivial

theorem calls_round {r : Option Nat} {n m : Nat} {P : Program} {f : FuncId} {args : Array Value} {w : World} {R : Ending → World → Prop}
    (h : CallsIn (fw Option.none) n P f args w R) : CallsIn (fw r) m P f args w R :=
  ⟨trivial, fun cs _ => h.2 cs (fun d hd => by simp [fw] at hd)⟩

theorem round_round {r : Option Nat} {n m : Nat} {P : Program} {l : Nat} {f : FuncId} {tmps : Array Value} {assign body : Code} {w : World} {R : Ending → World → Prop}
    (h : RoundIn (fw Option.none) n P l f tmps assign body w R) : RoundIn (fw r) m P l f tmps assign body w R :=
  ⟨trivial, fun c cs _ => h.2 c cs (fun d hd => by simp [fw] at hd)⟩

theorem row_round {r : Option Nat} {n m : Nat} {P : Program} {row : String} {args : Array Value} {w : World} {R : Value → World → Prop}
    (h : RowsIn (fw Option.none) n P row args w R) : RowsIn (fw r) m P row args w R :=
  fun c cs _ => h c cs (fun d hd => by simp [fw] at hd)

/-- an operation's rule in the kit's own terms -/
theorem opW_in {P : Program} {r : Option Nat} {o : Oper} {a : Act} {w : World} {next : Act → World → Prop} {Q : Exit → Act → World → Prop}
    (hd : ∀ c, o.op ≠ .defer c) (h : opW P o a.eval w (fun v w' => next (a.put o.dst v) w')) : o.wpIn (fw r) 0 P a w next Q := by
  refine ⟨fun f _ => trivial, ?_⟩
  rw [Oper.semAt_eq _ _ _ hd]
  unfold opW at h
  generalize (execOp a.eval o).run P w = x at h ⊢
  cases x with
  | ok n w' =>
    cases n <;> simp only [opR] at h <;> simp only [Oper.uponIn]
    case value v => exact h
    case skip => exact h
    case enter f args =>
      exact ⟨fw_depth, (calls_round h).mono fun e w'' ⟨v, he, hk⟩ => by subst he; exact hk⟩
    case row row args => exact ⟨fw_depth, row_round h⟩
    case round l f tmps assign body =>
      exact ⟨fw_depth, (round_round h).mono fun e w'' ⟨v, he, hk⟩ => by subst he; exact hk⟩
  | halt x w' => cases x <;> simp only [opR] at h

/-- a row of operations, in the order of the text -/
def opsW (P : Program) (ops : Array Oper) (n : Nat) : List Oper → Sto → World → (Sto → World → Prop) → Prop
  | [], σ, w, K => K σ w
  | o :: l, σ, w, K =>
    if Region.wanted o (yl ops n σ) then opW P o (ev n σ) w (fun v w' => opsW P ops n l (putS σ o.dst v) w' K)
    else opsW P ops n l (putS σ o.dst undef) w K

def noDefer (ops : Array Oper) : Bool := ops.toList.all fun o => match o.op with | .defer _ => false | _ => true

theorem noDefer_spec {ops : Array Oper} (h : noDefer ops = true) {i : Nat} {o : Oper} (ho : ops[i]? = some o) : ∀ c, o.op ≠ .defer c := by
  intro c hc
  have hm : o ∈ ops.toList := Array.mem_toList_iff.2 (Array.mem_of_getElem? ho)
  have := (List.all_eq_true.1 h) o hm
  rw [hc] at this
  simp at this

theorem opsW_sound {P : Program} {r : Option Nat} {ops : Array Oper} {n : Nat} {ds : List Deferred} {Q : Exit → Act → World → Prop} {K : Sto → World → Prop}
    (hd : noDefer ops = true) (hK : ∀ σ w, K σ w → Q .normal (act n σ ds) w) :
    ∀ (l : List Oper) (k : Nat), (∀ j, l[j]? = ops[k + j]?) → ∀ (σ : Sto) (w : World), opsW P ops n l σ w K →
      wpOpsIn (fw r) 0 P ops Q (List.range' k l.length) (act n σ ds) w
  | [], _, _, σ, w, h => hK σ w h
  | o :: l, k, hl, σ, w, h => by
    have h0 : ops[k]? = some o := by simpa using (hl 0).symm
    have hl' : ∀ j, l[j]? = ops[k + 1 + j]? := fun j => by
      have := hl (j + 1); simpa [Nat.add_assoc, Nat.add_comm 1 j] using this
    simp only [List.length_cons, List.range'_succ, wpOpsIn, h0, act_yielded]
    simp only [opsW] at h
    split
    · rename_i hw
      simp only [hw, if_true] at h
      refine opW_in (noDefer_spec hd h0) ?_
      rw [act_eval]
      refine opW_mono (fun v w' hk => ?_) h
      rw [act_put]
      exact opsW_sound hd hK l (k + 1) hl' _ _ hk
    · rename_i hw
      simp only [hw, Bool.false_eq_true, if_false] at h
      refine ⟨fun _ _ => trivial, ?_⟩
      rw [act_put]
      exact opsW_sound hd hK l (k + 1) hl' _ _ h

abbrev Post := Exit → Sto → List Deferred → World → Prop

def W (P : Program) (r : Option Nat) (n : Nat) (c : Code) (Q : Post) (σ : Sto) (ds : List Deferred) (w : World) : Prop :=
  c.wpIn (fw r) 0 P (fun e a w => ∃ σ' ds', a = act n σ' ds' ∧ Q e σ' ds' w) (act n σ ds) w

section rules
variable {P : Program} {r : Option Nat} {n : Nat} {Q : Post} {σ : Sto} {ds : List Deferred} {w : World}

theorem W_mono {c : Code} {Q' : Post} (h : W P r n c Q σ ds w) (hq : ∀ e σ ds w, Q e σ ds w → Q' e σ ds w) : W P r n c Q' σ ds w :=
  wpIn_mono h fun e a w ⟨σ', ds', ha, hQ⟩ => ⟨σ', ds', ha, hq _ _ _ _ hQ⟩

theorem W_skip (h : Q .normal σ ds w) : W P r n .skip Q σ ds w := wpIn_skip ⟨σ, ds, rfl, h⟩
theorem W_label {l : Nat} (h : Q .normal σ ds w) : W P r n (.label l) Q σ ds w := wpIn_label ⟨σ, ds, rfl, h⟩
theorem W_exit {id : Nat} (h : Q (.exit id) σ ds w) : W P r n (.exit id) Q σ ds w := wpIn_exit ⟨σ, ds, rfl, h⟩
theorem W_ret (h : Q .ret σ ds w) : W P r n .ret Q σ ds w := wpIn_ret ⟨σ, ds, rfl, h⟩

def thenQ (next : Sto → List Deferred → World → Prop) (Q : Post) : Post
  | .normal, σ, ds, w => next σ ds w
  | .exit id, σ, ds, w => Q (.exit id) σ ds w
  | .goto l, σ, ds, w => Q (.goto l) σ ds w
  | .ret, σ, ds, w => Q .ret σ ds w
  | .panic c, σ, ds, w => Q (.panic c) σ ds w
  | .outgrown, σ, ds, w => Q .outgrown σ ds w

theorem W_seq {x y : Code} (h : W P r n x (thenQ (fun σ ds w => W P r n y Q σ ds w) Q) σ ds w) : W P r n (.seq x y) Q σ ds w := by
  refine wpIn_seq (wpIn_mono h ?_)
  rintro e a w ⟨σ', ds', rfl, hq⟩
  cases e <;> first
    | exact hq
    | exact ⟨σ', ds', rfl, hq⟩

theorem W_cond {c : Operand} {x y : Code} {t : Bool} (hc : ev n σ c = .bool t) (ht : t = true → W P r n x Q σ ds w) (hf : t = false → W P r n y Q σ ds w) :
    W P r n (.cond c x y) Q σ ds w :=
  wpIn_cond_split (t := t) (by rw [act_eval]; exact hc) ht hf

def blockQ (id : Nat) (Q : Post) : Post
  | .exit id', σ, ds, w => if id' = id then Q .normal σ ds w else Q (.exit id') σ ds w
  | .normal, σ, ds, w => Q .normal σ ds w
  | .goto l, σ, ds, w => Q (.goto l) σ ds w
  | .ret, σ, ds, w => Q .ret σ ds w
  | .panic c, σ, ds, w => Q (.panic c) σ ds w
  | .outgrown, σ, ds, w => Q .outgrown σ ds w

theorem W_block {id : Nat} {c : Code} (h : W P r n c (blockQ id Q) σ ds w) : W P r n (.block id c) Q σ ds w := by
  refine wpIn_block (wpIn_mono h ?_)
  rintro e a w ⟨σ', ds', rfl, hq⟩
  cases e with
  | exit id' =>
    simp only [blockQ] at hq
    simp only [Exit.inBlock]
    split
    · rename_i h; rw [if_pos h] at hq; exact ⟨σ', ds', rfl, hq⟩
    · rename_i h; rw [if_neg h] at hq; exact ⟨σ', ds', rfl, hq⟩
  | normal => exact ⟨σ', ds', rfl, hq⟩
  | goto l => exact ⟨σ', ds', rfl, hq⟩
  | ret => exact ⟨σ', ds', rfl, hq⟩
  | panic c => exact ⟨σ', ds', rfl, hq⟩
  | outgrown => exact ⟨σ', ds', rfl, hq⟩

/-- a loop: an invariant with a measure -/
theorem W_loop {c : Code} (I : Nat → Sto → List Deferred → World → Prop) (m0 : Nat) (h₀ : I m0 σ ds w)
    (round : ∀ m σ ds w, I m σ ds w → W P r n c (thenQ (fun σ ds w => ∃ m', m' < m ∧ I m' σ ds w) Q) σ ds w) : W P r n (.loop c) Q σ ds w := by
  -- by induction on the measure, over the rule on a loop with a ghost: we use the step of wpIn directly
  intro b k cs hro hb hr
  have key : ∀ m σ ds w, I m σ ds w →
      ∃ e a' w', (∃ σ' ds', a' = act n σ' ds' ∧ Q e σ' ds' w') ∧ ArrivesIn (Machine.fenced P (fw r)) P (lone (b.atR (act n σ ds) (.code c :: .inLoop c :: k)) cs w) b k cs e a' w' := by
    intro m
    induction m using Nat.strongRecOn with
    | _ m ih =>
      intro σ ds w hI
      obtain ⟨e, a₁, w₁, ⟨σ₁, ds₁, rfl, hq⟩, harr⟩ := round m σ ds w hI b (.inLoop c :: k) cs hro hb hr
      cases e with
      | normal =>
        obtain ⟨m', hlt, hI₁⟩ := hq
        obtain ⟨e₂, a₂, w₂, hq₂, harr₂⟩ := ih m' hlt σ₁ ds₁ w₁ hI₁
        exact ⟨e₂, a₂, w₂, hq₂, .of_steps (StepsIn.trans harr (.one (fenced_calm hb hr rfl) stepR_inLoop)) harr₂⟩
      | exit id => exact ⟨_, _, w₁, ⟨σ₁, ds₁, rfl, hq⟩, .pass (x := .inLoop c) rfl (fun _ _ => .inl (by simp)) harr⟩
      | goto l => exact ⟨_, _, w₁, ⟨σ₁, ds₁, rfl, hq⟩, .pass (x := .inLoop c) rfl (fun _ _ => .inl (by simp)) harr⟩
      | ret => exact ⟨_, _, w₁, ⟨σ₁, ds₁, rfl, hq⟩, .pass (x := .inLoop c) rfl (fun _ _ => .inl (by simp)) harr⟩
      | panic ch => exact ⟨_, _, w₁, ⟨σ₁, ds₁, rfl, hq⟩, .pass (x := .inLoop c) rfl (fun _ _ => .inl (by simp)) harr⟩
      | outgrown => exact ⟨_, _, w₁, ⟨σ₁, ds₁, rfl, hq⟩, .pass (x := .inLoop c) rfl (fun _ _ => .inl (by simp)) harr⟩
  obtain ⟨e, a', w', hq, harr⟩ := key m0 σ ds w h₀
  exact ⟨e, a', w', hq, .of_steps (.one (fenced_calm hb hr rfl) stepR_loop) harr⟩

theorem W_region {id : Nat} {ops : Array Oper} (hd : noDefer ops = true) (h : opsW P ops n ops.toList σ w (fun σ w => Q .normal σ ds w)) :
    W P r n (.region id ops false) Q σ ds w := by
  refine wpIn_region ?_
  have := opsW_sound (r := r) (ds := ds) (Q := fun e a w => ∃ σ' ds', a = act n σ' ds' ∧ Q e σ' ds' w) hd (fun σ w h => ⟨σ, ds, rfl, h⟩) ops.toList 0 (by simp) σ w h
  simpa [List.range_eq_range'] using this

end rules

/-- the store at a function's entry -/
def sto0 (args : Array Value) : Sto := fun i => args.getD i undef

/-- the marks of the ranges over functions that a body has come through -/
def Marks (w : World) : List Deferred → Prop
  | [] => True
  | d :: ds => (∃ D, d = { target := .collected D, args := #[] } ∧ w.heap[D]? = some (.deferred (some [])) ∧ (∀ d' ∈ ds, d'.target ≠ .collected D)) ∧ Marks w ds

end Go.Proofs.Ytciadbhnodgpgaa
