/-
  No operation takes back a question that was asked of the tape.
  Conditions: none; this is a lemma on the model's own runs.
-/
import Derived.Test.YtciadbhnodgpgaaK0
set_option linter.unusedVariables false
set_option linter.unusedSimpArgs false
set_option linter.defProp false
namespace Go.Proofs.Ytciadbhnodgpgaa
open Go

theorem ask_drawn {α : Type} : ∀ (a : Ask α) (w : World), w.drawn ≤ (w.ask a).2.drawn
  | .done _, w => Nat.le_refl _
  | .ask what range k, w => by
    unfold World.ask
    dsimp only
    split
    · exact ask_drawn _ _
    · exact Nat.le_trans (Nat.le_succ _) (ask_drawn (k _) { w with drawn := w.drawn + 1 })

theorem sys_drawn (w : World) (c : Sys) : w.drawn ≤ (w.sys c).2.drawn := by
  have h := ask_drawn (Kernel.perform c w.os) w
  unfold World.sys
  split
  · exact Nat.le_refl _
  · rename_i heq; rw [heq] at h; exact h

theorem viewStore_drawn {p : Program} {w w' : World} {at_ : Addr} {u : TypeId} {k : Addr} {v : Value} {b : Bool} {l : List Addr} (h : w.viewStore p at_ u k v b = .ok (w', l)) : w'.drawn = w.drawn := by
  unfold World.viewStore at h
  simp only [bind, Except.bind, pure, Except.pure, throw, throwThe, MonadExceptOf.throw] at h
  repeat' split at h
  all_goals first
    | (cases h; done)
    | (cases h; rfl)

theorem farStore_drawn {p : Program} {w w' : World} {a : Addr} {v : Value} {b : Bool} {l : List Addr} (h : w.farStore p a v b = .ok (w', l)) : w'.drawn = w.drawn := by
  unfold World.farStore at h
  split at h
  · split at h
    · rename_i r hr
      cases h
      exact viewStore_drawn hr
    · cases h
  · cases h

theorem run_drawn {α : Type} {P : Program} : ∀ (s : Sem α) (w : World) (v : α) (w' : World), s.run P w = .ok v w' → w.drawn ≤ w'.drawn
  | .pure a, w, v, w', h => by simp only [Sem.run] at h; cases h; exact Nat.le_refl _
  | .load m a k, w, v, w', h => by
    simp only [Sem.run] at h
    split at h
    · exact run_drawn _ _ _ _ h
    · split at h
      · exact run_drawn _ _ _ _ h
      · cases h
  | .store m a x k, w, v, w', h => by
    have hgo : (match w.cell? a with
      | some _ => if w.frozen? a then Result.halt (.unsupported (.unsafePointer "a write to bytes that a string shares")) w else k.run P (w.setCell a x)
      | Option.none => match w.farStore P a x (m == .atomic) with
        | .ok (w, _) => k.run P w
        | .error h => .halt h w) = Result.ok v w' → w.drawn ≤ w'.drawn := fun h => by
      split at h
      · split at h
        · cases h
        · have := run_drawn k _ _ _ h; exact this
      · split at h
        · rename_i hf
          have := farStore_drawn hf
          have h2 := run_drawn k _ _ _ h
          omega
        · cases h
    cases x <;> first | (simp only [Sem.run] at h; cases h; done) | (simp only [Sem.run] at h; exact hgo h)
  | .new o k, w, v, w', h => by simp only [Sem.run] at h; exact run_drawn (k _) { w with heap := w.heap.push o } _ _ h
  | .shape r k, w, v, w', h => by simp only [Sem.run] at h; exact run_drawn _ _ _ _ h
  | .freeze a n k, w, v, w', h => by
    simp only [Sem.run] at h
    have := run_drawn k _ _ _ h
    have e : (w.freeze a n).drawn = w.drawn := by unfold World.freeze; split <;> rfl
    rwa [e] at this
  | .frozen a k, w, v, w', h => by simp only [Sem.run] at h; exact run_drawn _ _ _ _ h
  | .getObj r k, w, v, w', h => by
    simp only [Sem.run] at h
    split at h
    · cases h
    · exact run_drawn _ _ _ _ h
    · cases h
  | .setObj r o k, w, v, w', h => by
    simp only [Sem.run] at h
    split at h
    · cases h
    · exact run_drawn k { w with heap := w.heap.setIfInBounds r o } _ _ h
    · cases h
  | .choose q k, w, v, w', h => by
    simp only [Sem.run] at h
    split at h
    · exact run_drawn _ _ _ _ h
    · exact Nat.le_trans (Nat.le_succ _) (run_drawn (k _) { w with drawn := w.drawn + 1 } _ _ h)
  | .sys c k, w, v, w', h => by
    simp only [Sem.run] at h
    exact Nat.le_trans (sys_drawn w c) (run_drawn _ _ _ _ h)
  | .program k, w, v, w', h => by simp only [Sem.run] at h; exact run_drawn _ _ _ _ h
  | .mark m k, w, v, w', h => by simp only [Sem.run] at h; exact run_drawn k _ _ _ h
  | .halt h0, w, v, w', h => by simp only [Sem.run] at h; cases h
end Go.Proofs.Ytciadbhnodgpgaa
