/-
  A region that draws its order: one walk along a plan serves every order.
  Conditions: none; these are lemmas over any program.
-/
import Derived.Test.YtciadbhnodgpgaaK0
set_option linter.unusedVariables false
set_option linter.unusedSimpArgs false
set_option linter.defProp false
namespace Go.Proofs.Ytciadbhnodgpgaa
open Go

/-- w' is w, but for blocks of S and for new blocks -/
structure Keep (S : Nat → Prop) (w w' : World) : Prop where
  os : w'.os = w.os
  tape : w'.tape = w.tape
  output : w'.output = w.output
  size : w.heap.size ≤ w'.heap.size
  block : ∀ b, b < w.heap.size → ¬ S b → w'.heap[b]? = w.heap[b]?
  drawn : w.drawn ≤ w'.drawn

theorem Keep.refl (S : Nat → Prop) (w : World) : Keep S w w := ⟨rfl, rfl, rfl, Nat.le_refl _, fun _ _ _ => rfl, Nat.le_refl _⟩
theorem Keep.trans {S : Nat → Prop} {a b c : World} (h : Keep S a b) (k : Keep S b c) : Keep S a c :=
  ⟨k.os.trans h.os, k.tape.trans h.tape, k.output.trans h.output, Nat.le_trans h.size k.size,
   fun i hi hs => (k.block i (Nat.lt_of_lt_of_le hi h.size) hs).trans (h.block i hi hs), Nat.le_trans h.drawn k.drawn⟩
theorem Keep.mono {S T : Nat → Prop} {a b : World} (h : Keep S a b) (hST : ∀ i, i < a.heap.size → S i → T i) : Keep T a b :=
  ⟨h.os, h.tape, h.output, h.size, fun i hi hs => h.block i hi (fun x => hs (hST i hi x)), h.drawn⟩
theorem Keep.drew (S : Nat → Prop) (w : World) : Keep S w w.drew := ⟨rfl, rfl, rfl, Nat.le_refl _, fun _ _ _ => rfl, Nat.le_succ _⟩

abbrev NoS : Nat → Prop := fun _ => False
abbrev Ext (w w' : World) : Prop := Keep NoS w w'

def opAt (P : Program) (ops : Array Oper) (n : Nat) (i : Nat) (σ : Sto) (w : World) (K : Sto → World → Prop) : Prop :=
  match ops[i]? with
  | Option.none => K σ w
  | some o => if Region.wanted o (yl ops n σ) then opW P o (ev n σ) w (fun v w' => K (putS σ o.dst v) w') else K (putS σ o.dst undef) w

theorem opAt_mono {P : Program} {ops : Array Oper} {n i : Nat} {σ : Sto} {w : World} {K K' : Sto → World → Prop} (h : ∀ σ w, K σ w → K' σ w)
    (hh : opAt P ops n i σ w K) : opAt P ops n i σ w K' := by
  unfold opAt at *
  split
  · rename_i ho; rw [ho] at hh; exact h _ _ hh
  · rename_i o ho
    rw [ho] at hh
    dsimp only at hh
    split
    · rename_i hw; rw [if_pos hw] at hh; exact opW_mono (fun v w' hk => h _ _ hk) hh
    · rename_i hw; rw [if_neg hw] at hh; exact h _ _ hh

def dstAt (ops : Array Oper) (i : Nat) : Option Tmp := (ops[i]?).bind (·.dst)

def qv (P : Program) (ops : Array Oper) (n : Nat) (i : Nat) (σ : Sto) (x : World) (v : Value) : Prop :=
  match ops[i]? with
  | Option.none => False
  | some o => if Region.wanted o (yl ops n σ) then opW P o (ev n σ) x (fun v' w' => v' = v ∧ w' = x) else v = undef

abbrev rdy (ops : Array Oper) (l : Array Bool) : List Nat := Region.ready .any ops l

def any0 (P : Program) (ops : Array Oper) (n : Nat) (K : Sto → World → Prop) : Nat → Array Bool → Sto → World → Prop
  | 0, l, σ, w => rdy ops l = [] ∧ K σ w
  | f + 1, l, σ, w => (rdy ops l = [] → K σ w) ∧ ∀ i ∈ rdy ops l, opAt P ops n i σ w (fun σ' w' => any0 P ops n K f (l.setIfInBounds i true) σ' w')

def anyK (P : Program) (ops : Array Oper) (n : Nat) (isB : Nat → Bool) (K : Sto → World → Prop) : (World → Prop) → Nat → Array Bool → Sto → World → Prop
  | _, 0, l, σ, w => rdy ops l = [] ∧ K σ w
  | C, f + 1, l, σ, w => (rdy ops l = [] → K σ w) ∧ ∀ i ∈ rdy ops l, opAt P ops n i σ w (fun σ' w' =>
      (isB i = true ∧ any0 P ops n K f (l.setIfInBounds i true) σ' w') ∨
      (isB i = false ∧ ∃ C' : World → Prop, (∀ x, C' x → C x) ∧ C' w' ∧ anyK P ops n isB K C' f (l.setIfInBounds i true) σ' w'))

section
variable {P : Program} {ops : Array Oper} {n : Nat} {isB : Nat → Bool} {K : Sto → World → Prop}

theorem any0_of_K : ∀ (f : Nat) (C : World → Prop) (l : Array Bool) (σ : Sto) (w : World), anyK P ops n isB K C f l σ w → any0 P ops n K f l σ w
  | 0, _, _, _, _, h => h
  | f + 1, _, _, _, _, h => ⟨h.1, fun i hi => opAt_mono (fun σ w hk => by
      rcases hk with ⟨_, hk⟩ | ⟨_, C', _, _, hk⟩
      · exact hk
      · exact any0_of_K f C' _ _ _ hk) (h.2 i hi)⟩

/-- listed operations have what they wait for listed -/
def closedL (ops : Array Oper) (l : Array Bool) : Prop :=
  ∀ k o, ops[k]? = some o → l.getD k false = true → ∀ e ∈ o.after, Region.binds .any e = true → l.getD e.on false = true

theorem closed_set {l : Array Bool} (hl : closedL ops l) {j : Nat} (hj : j ∈ rdy ops l) : closedL ops (l.setIfInBounds j true) := by
  obtain ⟨_, oj, hoj, hall⟩ := mem_ready.1 hj
  intro k o ho hk e he hb
  by_cases hkj : j = k
  · subst hkj
    rw [ho] at hoj; cases hoj
    exact getD_set_true (hall e he hb)
  · rw [getD_set_ne false hkj] at hk
    exact getD_set_true (hl k o ho hk e he hb)

/-- whoever is of B waits, by the edges, for each that is not -/
def waitsB (ops : Array Oper) (isB : Nat → Bool) : Bool :=
  let m := Region.before ops
  ((List.range ops.size).all fun j => (List.range ops.size).all fun q => !(m.getD j 0).testBit q ||
    ((ops[j]?).map fun o => o.after.any fun e => Region.binds .any e && decide (e.on < j) && (e.on == q || (m.getD e.on 0).testBit q)).getD false) &&
  ((List.range ops.size).all fun b => !isB b || (List.range ops.size).all fun a => isB a || (m.getD b 0).testBit a)

theorem waits_listed (hB : waitsB ops isB = true) {l : Array Bool} (hl : closedL ops l) : ∀ (j : Nat) (o : Oper), ops[j]? = some o →
    (∀ e ∈ o.after, Region.binds .any e = true → l.getD e.on false = true) → ∀ q, q < ops.size → ((Region.before ops).getD j 0).testBit q = true → l.getD q false = true := by
  intro j
  induction j using Nat.strongRecOn with
  | _ j ih =>
    intro o ho hall q hq hbit
    unfold waitsB at hB
    simp only [Bool.and_eq_true] at hB
    have hj : j < ops.size := (Array.getElem?_eq_some_iff.1 ho).1
    have h1 := List.all_eq_true.1 hB.1 j (List.mem_range.2 hj)
    have h2 := List.all_eq_true.1 h1 q (List.mem_range.2 hq)
    rw [hbit, ho] at h2
    simp only [Bool.not_true, Bool.false_or, Option.map_some, Option.getD_some] at h2
    obtain ⟨i, hi, h3⟩ := Array.any_eq_true.1 h2
    simp only [Bool.and_eq_true, decide_eq_true_eq, Bool.or_eq_true, beq_iff_eq] at h3
    obtain ⟨⟨hbind, hlt⟩, hor⟩ := h3
    have hle := hall o.after[i] (Array.getElem_mem hi) hbind
    rcases hor with heq | hbit'
    · rw [← heq]; exact hle
    · have hlts : o.after[i].on < ops.size := Nat.lt_trans hlt hj
      exact ih _ hlt ops[o.after[i].on] (by simp [hlts]) (fun e he hb => hl _ _ (by simp [hlts]) hle e he hb) q hq hbit'

theorem B_waits (hB : waitsB ops isB = true) {l : Array Bool} (hl : closedL ops l) {j i : Nat} (hj : j ∈ rdy ops l) (hb : isB j = true) (hi : i < ops.size) (hni : isB i = false) : l.getD i false = true := by
  obtain ⟨_, oj, hoj, hall⟩ := mem_ready.1 hj
  have hjs : j < ops.size := (Array.getElem?_eq_some_iff.1 hoj).1
  refine waits_listed hB hl j oj hoj hall i hi ?_
  unfold waitsB at hB
  simp only [Bool.and_eq_true] at hB
  have h1 := List.all_eq_true.1 hB.2 j (List.mem_range.2 hjs)
  rw [hb] at h1
  have h2 := List.all_eq_true.1 h1 i (List.mem_range.2 hi)
  rw [hni] at h2
  simpa using h2

theorem ev_putS {o : Oper} {σ : Sto} {dst : Option Tmp} {v : Value} (h : ∀ d, dst = some d → d ∉ o.looksAt ops) :
    ∀ x ∈ o.op.operands, ev n (putS σ dst v) x = ev n σ x := by
  intro x hx
  cases dst with
  | none => rfl
  | some d =>
    cases x with
    | tmp t =>
      have : t ≠ d := fun e => h d rfl (by
        subst e
        exact List.mem_append_left _ (List.mem_filterMap.2 ⟨.tmp t, by simpa using hx, rfl⟩))
      simp [ev, putS, upd, this]
    | _ => rfl

theorem exec_putS {o : Oper} {σ : Sto} {dst : Option Tmp} {v : Value} (hs : ∀ cs b, o.op ≠ .select cs b) (h : ∀ d, dst = some d → d ∉ o.looksAt ops) :
    execOp (ev n (putS σ dst v)) o = execOp (ev n σ) o := execOp_congr o hs (ev_putS h)

theorem wanted_putS {o : Oper} {σ : Sto} {dst : Option Tmp} {v : Value} (h : ∀ d, dst = some d → d ∉ o.looksAt ops) :
    Region.wanted o (yl ops n (putS σ dst v)) = Region.wanted o (yl ops n σ) := by
  cases dst with
  | none => rfl
  | some d =>
    unfold Region.wanted
    cases hg : o.guard with
    | none => rfl
    | some gw =>
      obtain ⟨g, want⟩ := gw
      have hy : yl ops n (putS σ (some d) v) g = yl ops n σ g := by
        unfold yl
        cases ht : (ops[g]?).bind (·.dst) with
        | none => rfl
        | some t =>
          have hne : t ≠ d := fun e => h d rfl (by subst e; simp [Oper.looksAt, hg, ht])
          simp [putS, upd, hne]
      simp only [hy]

theorem putS_comm (σ : Sto) {x y : Option Tmp} (v u : Value) (h : ∀ d, x = some d → y ≠ some d) : putS (putS σ x v) y u = putS (putS σ y u) x v := by
  cases x with
  | none => rfl
  | some d =>
    cases y with
    | none => rfl
    | some e =>
      have hne : d ≠ e := fun he => h d rfl (he ▸ rfl)
      funext i
      simp only [putS, upd]
      by_cases h1 : i = e <;> by_cases h2 : i = d <;> simp_all

theorem qv_putS {i : Nat} {oi oj : Oper} {v u : Value} {σ : Sto} {x : World} (hi : ops[i]? = some oi) (hs : ∀ cs b, oi.op ≠ .select cs b)
    (hap : oi.apart ops oj = true) (h : qv P ops n i σ x v) : qv P ops n i (putS σ oj.dst u) x v := by
  obtain ⟨h1, h2, h3⟩ := Oper.apart_spec hap
  unfold qv at *
  simp only [hi] at *
  rw [wanted_putS h3]
  unfold opW at *
  rw [exec_putS hs h3]
  exact h

theorem opAt_putS {j : Nat} {oi oj : Oper} {v : Value} (hj : ops[j]? = some oj) (hap : oi.apart ops oj = true)
    (hsj : ∀ cs b, oj.op ≠ .select cs b) {K' : Sto → World → Prop} {σ : Sto} {w : World} (h : opAt P ops n j (putS σ oi.dst v) w K') :
    opAt P ops n j σ w (fun σ' w' => (∃ u, σ' = putS σ oj.dst u) ∧ K' (putS σ' oi.dst v) w') := by
  obtain ⟨h1, h2, h3⟩ := Oper.apart_spec hap
  unfold opAt at *
  simp only [hj] at *
  rw [wanted_putS h1] at h
  split
  · rename_i hw
    rw [if_pos hw] at h
    unfold opW at *
    rw [exec_putS hsj h1] at h
    refine opR_mono (fun u w' hk => ⟨⟨u, rfl⟩, ?_⟩) h
    rw [← putS_comm σ v u h2]; exact hk
  · rename_i hw
    rw [if_neg hw] at h
    exact ⟨⟨undef, rfl⟩, by rw [← putS_comm σ v undef h2]; exact h⟩

theorem opAt_of_qv {i : Nat} {oi : Oper} {v : Value} {σ : Sto} {w : World} (hi : ops[i]? = some oi) (h : qv P ops n i σ w v) {K' : Sto → World → Prop} (hk : K' (putS σ oi.dst v) w) :
    opAt P ops n i σ w K' := by
  unfold qv at h
  unfold opAt
  simp only [hi] at *
  split
  · rename_i hw
    rw [if_pos hw] at h
    exact opW_mono (fun v' w' ⟨e1, e2⟩ => by subst e1; subst e2; exact hk) h
  · rename_i hw
    rw [if_neg hw] at h
    subst h
    exact hk

theorem anyK_first {i : Nat} {oi : Oper} {v : Value} (hi : ops[i]? = some oi) (hsel : Region.noSelect ops = true) (hB : waitsB ops isB = true) (hni : isB i = false) :
    ∀ (f : Nat) (C : World → Prop) (l : Array Bool) (σ : Sto) (w : World), closedL ops l →
      (∀ j oj, ops[j]? = some oj → j ≠ i → l.getD j true = false → (∀ e ∈ oj.after, Region.binds .any e = true → e.on ≠ i) → oi.apart ops oj = true) →
      i ∈ rdy ops l → (∀ x, C x → qv P ops n i σ x v) → C w →
      anyK P ops n isB K C f (l.setIfInBounds i true) (putS σ oi.dst v) w → anyK P ops n isB K C (f + 1) l σ w := by
  have hsz : i < ops.size := (Array.getElem?_eq_some_iff.1 hi).1
  intro f
  induction f with
  | zero =>
    intro C l σ w hcl _ hr hy hC H
    refine ⟨fun h => (by rw [h] at hr; cases hr), fun j hj => ?_⟩
    by_cases hji : j = i
    · subst hji; exact opAt_of_qv hi (hy w hC) (.inr ⟨hni, C, fun _ h => h, hC, H⟩)
    · have this : j ∈ rdy ops (l.setIfInBounds i true) := ready_mono hj hji
      rw [H.1] at this
      cases this
  | succ f ih =>
    intro C l σ w hcl hfree hr hy hC H
    refine ⟨fun h => (by rw [h] at hr; cases hr), fun j hj => ?_⟩
    by_cases hji : j = i
    · subst hji; exact opAt_of_qv hi (hy w hC) (.inr ⟨hni, C, fun _ h => h, hC, H⟩)
    · have h1 := H.2 j (ready_mono hj hji)
      have hiun : l.getD i true = false := (mem_ready.1 hr).1
      have hiun' : l.getD i false = false := by
        rcases Nat.lt_or_ge i l.size with h' | h'
        · simp [h'] at hiun ⊢; exact hiun
        · simp [Array.getElem?_eq_none h'] at hiun
      have hjnb : isB j = false := by
        cases hb : isB j with
        | false => rfl
        | true => have := B_waits hB hcl hj hb hsz hni; rw [hiun'] at this; cases this
      obtain ⟨hjun, oj, hoj, hall⟩ := mem_ready.1 hj
      have hnot : ∀ e ∈ oj.after, Region.binds .any e = true → e.on ≠ i := fun e he hb heq => by
        have h1 := hall e he hb
        rw [heq, hiun'] at h1; cases h1
      have hap := hfree j oj hoj hji hjun hnot
      have h2 := opAt_putS hoj hap (fun cs b => Region.noSelect_spec hsel j oj cs b hoj) h1
      have hfree' : ∀ k ok, ops[k]? = some ok → k ≠ i → (l.setIfInBounds j true).getD k true = false →
          (∀ e ∈ ok.after, Region.binds .any e = true → e.on ≠ i) → oi.apart ops ok = true := fun k ok hk hki hun hno => by
        refine hfree k ok hk hki ?_ hno
        by_cases hjk : j = k
        · subst hjk; exact hjun
        · rw [getD_set_ne true hjk] at hun; exact hun
      refine opAt_mono (fun σ' w' h3 => ?_) h2
      obtain ⟨⟨u, rfl⟩, h3⟩ := h3
      rcases h3 with ⟨hb, _⟩ | ⟨_, C', hsub, hC', h3⟩
      · rw [hjnb] at hb; cases hb
      · refine .inr ⟨hjnb, C', hsub, hC', ih C' (l.setIfInBounds j true) (putS σ oj.dst u) w' (closed_set hcl hj) hfree' (ready_mono hr (Ne.symm hji)) ?_ hC' ?_⟩
        · exact fun x hx => qv_putS hi (fun cs b => Region.noSelect_spec hsel i oi cs b hi) hap (hy x (hsub x hx))
        · rw [Array.setIfInBounds_comm _ _ hji]; exact h3

/-! ### The plan -/

def planOk (ops : Array Oper) (isB : Nat → Bool) : List (Nat × Bool) → Array Bool → Bool
  | [], l => (rdy ops l).isEmpty
  | (i, true) :: pl, l => (rdy ops l).contains i && Region.free .any ops l i && !isB i && planOk ops isB pl (l.setIfInBounds i true)
  | (i, false) :: pl, l => (rdy ops l == [i]) && planOk ops isB pl (l.setIfInBounds i true)

def drawW (P : Program) (ops : Array Oper) (n : Nat) (S : Nat → Prop) (isB : Nat → Bool) : List (Nat × Bool) → Sto → World → (Sto → World → Prop) → Prop
  | [], σ, w, K => K σ w
  | (i, true) :: pl, σ, w, K => ∃ v, (∀ x, Keep S w x → qv P ops n i σ x v) ∧ drawW P ops n S isB pl (putS σ (dstAt ops i) v) w K
  | (i, false) :: pl, σ, w, K => opAt P ops n i σ w (fun σ' w' => (isB i = true ∨ Keep S w w') ∧ drawW P ops n S isB pl σ' w' K)

theorem anyK_of_draw {S : Nat → Prop} (hsel : Region.noSelect ops = true) (hB : waitsB ops isB = true) : ∀ (pl : List (Nat × Bool)) (l : Array Bool) (σ : Sto) (w : World), closedL ops l →
    planOk ops isB pl l = true → drawW P ops n S isB pl σ w K → anyK P ops n isB K (Keep S w) pl.length l σ w
  | [], l, σ, w, _, hp, h => ⟨by simpa [planOk] using hp, h⟩
  | (i, true) :: pl, l, σ, w, hcl, hp, h => by
    simp only [planOk, Bool.and_eq_true, Bool.not_eq_true', List.contains_iff_mem] at hp
    obtain ⟨⟨⟨hr, hfree⟩, hni⟩, hp⟩ := hp
    obtain ⟨v, hq, h⟩ := h
    obtain ⟨_, oi, hoi, _⟩ := mem_ready.1 hr
    have hd : dstAt ops i = oi.dst := by simp [dstAt, hoi]
    rw [hd] at h
    exact anyK_first hoi hsel hB hni pl.length (Keep S w) l σ w hcl (Region.free_spec hoi hfree) hr hq (Keep.refl S w)
      (anyK_of_draw hsel hB pl _ _ w (closed_set hcl hr) hp h)
  | (i, false) :: pl, l, σ, w, hcl, hp, h => by
    simp only [planOk, Bool.and_eq_true, beq_iff_eq] at hp
    obtain ⟨hr, hp⟩ := hp
    have hmem : i ∈ rdy ops l := by rw [hr]; exact List.mem_singleton.2 rfl
    refine ⟨fun h0 => (by rw [hr] at h0; cases h0), fun j hj => ?_⟩
    rw [hr] at hj
    obtain rfl := List.mem_singleton.1 hj
    refine opAt_mono (fun σ' w' ⟨hor, hk⟩ => ?_) h
    have hrec := anyK_of_draw hsel hB pl _ σ' w' (closed_set hcl hmem) hp hk
    cases hb : isB j with
    | true => exact .inl ⟨rfl, any0_of_K _ _ _ _ _ hrec⟩
    | false =>
      rw [hb] at hor
      have hkeep := hor.resolve_left (by simp)
      exact .inr ⟨rfl, Keep S w', fun x hx => hkeep.trans hx, Keep.refl S w', hrec⟩

theorem wpAny_of_any0 {r : Option Nat} {ds : List Deferred} {Q : Exit → Act → World → Prop} (hd : noDefer ops = true) (hK : ∀ σ w, K σ w → Q .normal (act n σ ds) w) :
    ∀ (f : Nat) (l : Array Bool) (σ : Sto) (w : World), any0 P ops n K f l σ w → wpAnyIn (fw r) 0 P .any ops Q f l (act n σ ds) w
  | 0, _, _, _, h => ⟨h.1, hK _ _ h.2⟩
  | f + 1, l, σ, w, h => by
    refine ⟨fun h0 => hK _ _ (h.1 h0), fun i hi => ?_⟩
    have h2 := h.2 i hi
    unfold opAt at h2
    unfold wpOpIn
    split
    · rename_i ho; rw [ho] at h2; exact wpAny_of_any0 hd hK f _ _ _ h2
    · rename_i o ho
      rw [ho] at h2
      dsimp only at h2
      rw [act_yielded]
      split
      · rename_i hw
        rw [if_pos hw] at h2
        refine opW_in (noDefer_spec hd ho) ?_
        rw [act_eval]
        refine opW_mono (fun v w' hk => ?_) h2
        rw [act_put]
        exact wpAny_of_any0 hd hK f _ _ _ hk
      · rename_i hw
        rw [if_neg hw] at h2
        refine ⟨fun _ _ => trivial, ?_⟩
        rw [act_put]
        exact wpAny_of_any0 hd hK f _ _ _ h2

end

/-- all that is asked of a region that draws and of its plan: closed facts -/
def drawOk (ops : Array Oper) (isB : Nat → Bool) (pl : List (Nat × Bool)) : Bool :=
  Region.noSelect ops && noDefer ops && waitsB ops isB && decide (pl.length = ops.size) && planOk ops isB pl (Array.replicate ops.size false)

theorem closed_start (ops : Array Oper) : closedL ops (Array.replicate ops.size false) := by
  intro k o ho hk
  by_cases h : k < ops.size <;> simp [h] at hk

theorem W_draw {P : Program} {r : Option Nat} {n : Nat} {Q : Post} {σ : Sto} {ds : List Deferred} {w : World} {id : Nat} {ops : Array Oper}
    (isB : Nat → Bool) (pl : List (Nat × Bool)) (S : Nat → Prop)
    (hm : P.follows .mixedOrders = true) (hok : drawOk ops isB pl = true)
    (h : drawW P ops n S isB pl σ w.drew (fun σ w => Q .normal σ ds w)) : W P r n (.region id ops true) Q σ ds w := by
  simp only [drawOk, Bool.and_eq_true, decide_eq_true_eq] at hok
  obtain ⟨⟨⟨⟨h1, h2⟩, h3⟩, h4⟩, h5⟩ := hok
  refine wpIn_region_any hm ?_
  have := anyK_of_draw (K := fun σ w => Q .normal σ ds w) h1 h3 pl _ σ w.drew (closed_start ops) h5 h
  rw [h4] at this
  exact wpAny_of_any0 h2 (fun σ w hk => ⟨σ, ds, rfl, hk⟩) _ _ _ _ (any0_of_K _ _ _ _ _ this)

/-- every order, walked one by one: where no plan serves -/
theorem W_draw_all {P : Program} {r : Option Nat} {n : Nat} {Q : Post} {σ : Sto} {ds : List Deferred} {w : World} {id : Nat} {ops : Array Oper}
    (hm : P.follows .mixedOrders = true) (hd : noDefer ops = true)
    (h : any0 P ops n (fun σ w => Q .normal σ ds w) ops.size (Array.replicate ops.size false) σ w.drew) : W P r n (.region id ops true) Q σ ds w :=
  wpIn_region_any hm (wpAny_of_any0 hd (fun σ w hk => ⟨σ, ds, rfl, hk⟩) _ _ _ _ h)

end Go.Proofs.Ytciadbhnodgpgaa
