/-
  Regions that draw their order and leave a choice: every way is walked.
  Conditions: none; these are lemmas over any program.
-/
import Derived.Test.YtciadbhnodgpgaaK10
set_option linter.unusedVariables false
set_option linter.unusedSimpArgs false
set_option linter.defProp false
namespace Go.Proofs.Ytciadbhnodgpgaa
open Go

inductive Pln
  | fin
  | run (pl : List (Nat × Bool)) (p : Pln)
  | fork (m : Nat) (is : List Nat) (p : Nat → Pln)

def Pln.len : Pln → Nat
  | .fin => 0
  | .run pl p => pl.length + p.len
  | .fork m _ _ => m + 1

def planPre (ops : Array Oper) (isB : Nat → Bool) : List (Nat × Bool) → Array Bool → Option (Array Bool)
  | [], l => some l
  | (i, true) :: pl, l => if (rdy ops l).contains i && Region.free .any ops l i && !isB i then planPre ops isB pl (l.setIfInBounds i true) else Option.none
  | (i, false) :: pl, l => if rdy ops l == [i] then planPre ops isB pl (l.setIfInBounds i true) else Option.none

def planT (ops : Array Oper) (isB : Nat → Bool) : Pln → Array Bool → Bool
  | .fin, l => (rdy ops l).isEmpty
  | .run pl p, l => match planPre ops isB pl l with | some l' => planT ops isB p l' | Option.none => false
  | .fork m is p, l => (rdy ops l == is) && !is.isEmpty && is.all fun i => (p i).len == m && planT ops isB (p i) (l.setIfInBounds i true)

section
variable {P : Program} {ops : Array Oper} {n : Nat} {isB : Nat → Bool} {K : Sto → World → Prop} {S : Nat → Prop}

theorem anyK_pre (hsel : Region.noSelect ops = true) (hB : waitsB ops isB = true) {f : Nat} {l' : Array Bool} : ∀ (pl : List (Nat × Bool)) (l : Array Bool) (σ : Sto) (w : World), closedL ops l →
    planPre ops isB pl l = some l' → drawW P ops n S isB pl σ w (fun σ' w' => closedL ops l' → anyK P ops n isB K (Keep S w') f l' σ' w') → anyK P ops n isB K (Keep S w) (pl.length + f) l σ w
  | [], l, σ, w, hcl, hp, h => by
    cases hp
    rw [List.length_nil, Nat.zero_add]
    exact h hcl
  | (i, true) :: pl, l, σ, w, hcl, hp, h => by
    unfold planPre at hp
    split at hp
    · rename_i hc
      simp only [Bool.and_eq_true, Bool.not_eq_true', List.contains_iff_mem] at hc
      obtain ⟨⟨hr, hfree⟩, hni⟩ := hc
      obtain ⟨v, hq, h⟩ := h
      obtain ⟨_, oi, hoi, _⟩ := mem_ready.1 hr
      have hd : dstAt ops i = oi.dst := by simp [dstAt, hoi]
      rw [hd] at h
      have := anyK_first hoi hsel hB hni (pl.length + f) (Keep S w) l σ w hcl (Region.free_spec hoi hfree) hr hq (Keep.refl S w)
        (anyK_pre hsel hB pl _ _ w (closed_set hcl hr) hp h)
      rwa [show ((i, true) :: pl).length + f = (pl.length + f) + 1 from by simp; omega]
    · cases hp
  | (i, false) :: pl, l, σ, w, hcl, hp, h => by
    unfold planPre at hp
    split at hp
    · rename_i hr
      rw [beq_iff_eq] at hr
      have hmem : i ∈ rdy ops l := by rw [hr]; exact List.mem_singleton.2 rfl
      rw [show ((i, false) :: pl).length + f = (pl.length + f) + 1 from by simp; omega]
      refine ⟨fun h0 => (by rw [hr] at h0; cases h0), fun j hj => ?_⟩
      rw [hr] at hj
      obtain rfl := List.mem_singleton.1 hj
      refine opAt_mono (fun σ' w' ⟨hor, hk⟩ => ?_) h
      have hrec := anyK_pre hsel hB pl _ σ' w' (closed_set hcl hmem) hp hk
      cases hb : isB j with
      | true => exact .inl ⟨rfl, any0_of_K _ _ _ _ _ hrec⟩
      | false =>
        rw [hb] at hor
        have hkeep := hor.resolve_left (by simp)
        exact .inr ⟨rfl, Keep S w', fun x hx => hkeep.trans hx, Keep.refl S w', hrec⟩
    · cases hp

def drawTW (P : Program) (ops : Array Oper) (n : Nat) (S : Nat → Prop) (isB : Nat → Bool) (K : Sto → World → Prop) : Pln → Sto → World → Prop
  | .fin, σ, w => K σ w
  | .run pl p, σ, w => drawW P ops n S isB pl σ w (fun σ' w' => drawTW P ops n S isB K p σ' w')
  | .fork _ is p, σ, w => ∀ i ∈ is, opAt P ops n i σ w (fun σ' w' => (isB i = true ∨ Keep S w w') ∧ drawTW P ops n S isB K (p i) σ' w')

theorem drawW_mono {K K' : Sto → World → Prop} (hk : ∀ σ w, K σ w → K' σ w) : ∀ (pl : List (Nat × Bool)) (σ : Sto) (w : World), drawW P ops n S isB pl σ w K → drawW P ops n S isB pl σ w K'
  | [], σ, w, h => hk σ w h
  | (i, true) :: pl, σ, w, ⟨v, h1, h2⟩ => ⟨v, h1, drawW_mono hk pl _ _ h2⟩
  | (i, false) :: pl, σ, w, h => opAt_mono (fun σ' w' ⟨h1, h2⟩ => ⟨h1, drawW_mono hk pl _ _ h2⟩) h

theorem anyK_of_tree (hsel : Region.noSelect ops = true) (hB : waitsB ops isB = true) : ∀ (p : Pln) (l : Array Bool) (σ : Sto) (w : World), closedL ops l →
    planT ops isB p l = true → drawTW P ops n S isB K p σ w → anyK P ops n isB K (Keep S w) p.len l σ w
  | .fin, l, σ, w, _, hp, h => ⟨by simpa [planT] using hp, h⟩
  | .run pl p, l, σ, w, hcl, hp, h => by
    unfold planT at hp
    split at hp
    · rename_i l' hl'
      exact anyK_pre hsel hB pl l σ w hcl hl' (drawW_mono (fun σ' w' hk hcl' => anyK_of_tree hsel hB p l' σ' w' hcl' hp hk) pl σ w h)
    · cases hp
  | .fork m is p, l, σ, w, hcl, hp, h => by
    simp only [planT, Bool.and_eq_true, beq_iff_eq, List.all_eq_true, Bool.not_eq_true'] at hp
    obtain ⟨⟨hr, hne⟩, hall⟩ := hp
    refine ⟨fun h0 => (by rw [hr] at h0; subst h0; cases hne), fun j hj => ?_⟩
    have hj' := hj
    rw [hr] at hj'
    obtain ⟨hlen, hpj⟩ := hall j hj'
    refine opAt_mono (fun σ' w' ⟨hor, hk⟩ => ?_) (h j hj')
    have hrec := anyK_of_tree hsel hB (p j) _ σ' w' (closed_set hcl hj) hpj hk
    rw [hlen] at hrec
    cases hb : isB j with
    | true => exact .inl ⟨rfl, any0_of_K _ _ _ _ _ hrec⟩
    | false =>
      rw [hb] at hor
      have hkeep := hor.resolve_left (by simp)
      exact .inr ⟨rfl, Keep S w', fun x hx => hkeep.trans hx, Keep.refl S w', hrec⟩
end

def treeOk (ops : Array Oper) (isB : Nat → Bool) (p : Pln) : Bool :=
  Region.noSelect ops && noDefer ops && waitsB ops isB && decide (p.len = ops.size) && planT ops isB p (Array.replicate ops.size false)

def allL {α : Type} : List α → (α → Prop) → Prop
  | [], _ => True
  | [a], f => f a
  | a :: l, f => f a ∧ allL l f
theorem allL_mem {α : Type} {f : α → Prop} : ∀ {l : List α}, allL l f → ∀ a ∈ l, f a
  | [], _, a, h => by cases h
  | [b], h, a, ha => by rw [List.mem_singleton.1 ha]; exact h
  | b :: c :: l, h, a, ha => by
    rcases List.mem_cons.1 ha with rfl | ha
    · exact h.1
    · exact allL_mem h.2 a ha

def drawT (P : Program) (gd : Nat → Option Tmp) (ops : List Oper) (n : Nat) (S : Nat → Prop) (isB : Nat → Bool) : Pln → Sto → World → (Sto → World → Prop) → Prop
  | .fin, σ, w, K => K σ w
  | .run pl p, σ, w, K => drawV P gd ops n S isB pl σ w (fun σ' w' => drawT P gd ops n S isB p σ' w' K)
  | .fork _ is p, σ, w, K => allL is fun i => drawV P gd ops n S isB [(i, false)] σ w (fun σ' w' => drawT P gd ops n S isB (p i) σ' w' K)

section
variable {P : Program} {n : Nat} {S : Nat → Prop} {isB : Nat → Bool} {K : Sto → World → Prop}
theorem drawT_sound {ops : Array Oper} : ∀ (p : Pln) (σ : Sto) (w : World), drawT P (dstL ops.toList) ops.toList n S isB p σ w K → drawTW P ops n S isB K p σ w
  | .fin, _, _, h => h
  | .run pl p, σ, w, h => drawW_mono (fun σ' w' hk => drawT_sound p σ' w' hk) pl σ w (drawV_sound pl σ w h)
  | .fork m is p, σ, w, h => fun i hi => by
    have := drawV_sound _ σ w (allL_mem h i hi)
    exact opAt_mono (fun σ' w' ⟨h1, h2⟩ => ⟨h1, drawT_sound (p i) σ' w' h2⟩) this

variable {r : Option Nat} {Q : Post} {σ : Sto} {ds : List Deferred} {w : World}
/-- a region that draws its order, along a plan that forks -/
theorem W_tree {id : Nat} {ops : Array Oper} (isB : Nat → Bool) (p : Pln) (S : Nat → Prop)
    (hm : P.follows .mixedOrders = true) (hok : treeOk ops isB p = true)
    (h : ∀ (gd : Nat → Option Tmp) (K : Sto → World → Prop) (x : World), gd = dstL ops.toList → Keep S w x → x = w.drew → (∀ σ' w', Q .normal σ' ds w' → K σ' w') → drawT P gd ops.toList n S isB p σ x K) :
    W P r n (.region id ops true) Q σ ds w := by
  simp only [treeOk, Bool.and_eq_true, decide_eq_true_eq] at hok
  obtain ⟨⟨⟨⟨h1, h2⟩, h3⟩, h4⟩, h5⟩ := hok
  refine wpIn_region_any hm ?_
  have := anyK_of_tree (K := fun σ w => Q .normal σ ds w) h1 h3 p _ σ w.drew (closed_start ops) h5 (drawT_sound p σ w.drew (h _ _ _ rfl (Keep.drew S w) rfl (fun _ _ h => h)))
  rw [h4] at this
  exact wpAny_of_any0 h2 (fun σ w hk => ⟨σ, ds, rfl, hk⟩) _ _ _ _ (any0_of_K _ _ _ _ _ this)

variable {gd : Nat → Option Tmp} {ops : List Oper}
theorem drawT_fin : drawT P gd ops n S isB .fin σ w K = K σ w := nr rfl
theorem drawT_run (pl : List (Nat × Bool)) (p : Pln) : drawT P gd ops n S isB (.run pl p) σ w K = drawV P gd ops n S isB pl σ w (fun σ' w' => drawT P gd ops n S isB p σ' w' K) := nr rfl
theorem drawT_fork (m : Nat) (is : List Nat) (p : Nat → Pln) : drawT P gd ops n S isB (.fork m is p) σ w K = allL is fun i => drawV P gd ops n S isB [(i, false)] σ w (fun σ' w' => drawT P gd ops n S isB (p i) σ' w' K) := nr rfl
end
section
variable {α : Type} {f : α → Prop} {a b : α} {l : List α}
theorem allL_one : allL [a] f = f a := nr rfl
theorem allL_more : allL (a :: b :: l) f = (f a ∧ allL (b :: l) f) := nr rfl
end
def above (n : Nat) : Nat → Prop := fun b => n ≤ b
theorem offS_above {n b o : Nat} (h : b < n) : offS (above n) (some ⟨b, o, Option.none⟩) = True := by
  simp only [offS, above, eq_iff_iff, iff_true]
  intro a ha
  cases ha
  show ¬ n ≤ b
  omega
theorem Ext.keep {S : Nat → Prop} {w x : World} (h : Ext w x) : Keep S w x := h.mono (fun _ _ h => h.elim)
attribute [go_sem ↓] drawT_fin drawT_run drawT_fork
end Go.Proofs.Ytciadbhnodgpgaa
