/-
  The order of labels.
  Conditions: none; plain facts.
-/
import Derived.Test.YtciadbhnodgpgaaT0
import Derived.Lib.Bytealg
set_option linter.unusedVariables false
set_option linter.unusedSimpArgs false
set_option linter.defProp false
namespace Go.Proofs.Ytciadbhnodgpgaa
open Go

abbrev cmpL : Lab → Lab → Int := Lib.compareBytes

theorem u8_lt_iff {a b : UInt8} : a < b ↔ a.toNat < b.toNat := UInt8.lt_iff_toNat_lt

theorem cmpL_self : ∀ a : Lab, cmpL a a = 0
  | [] => rfl
  | a :: l => by
    show (if a < a then _ else if a < a then _ else cmpL l l) = 0
    have h : ¬ a < a := by rw [u8_lt_iff]; omega
    rw [if_neg h, if_neg h]; exact cmpL_self l

theorem cmpL_neg : ∀ a b : Lab, cmpL b a = - cmpL a b
  | [], [] => rfl
  | [], _ :: _ => rfl
  | _ :: _, [] => rfl
  | a :: l, b :: m => by
    show (if b < a then _ else if a < b then _ else cmpL m l) = - (if a < b then (-1 : Int) else if b < a then 1 else cmpL l m)
    by_cases h1 : a < b
    · have h2 : ¬ b < a := by rw [u8_lt_iff] at *; omega
      rw [if_neg h2, if_pos h1, if_pos h1]; rfl
    · by_cases h2 : b < a
      · rw [if_pos h2, if_neg h1, if_pos h2]
      · rw [if_neg h2, if_neg h1, if_neg h1, if_neg h2]; exact cmpL_neg l m

theorem cmpL_zero : ∀ {a b : Lab}, cmpL a b = 0 → a = b
  | [], [], _ => rfl
  | [], _ :: _, h => by cases h
  | _ :: _, [], h => by cases h
  | a :: l, b :: m, h => by
    change (if a < b then (-1 : Int) else if b < a then 1 else cmpL l m) = 0 at h
    by_cases h1 : a < b
    · rw [if_pos h1] at h; cases h
    · by_cases h2 : b < a
      · rw [if_neg h1, if_pos h2] at h; cases h
      · rw [if_neg h1, if_neg h2] at h
        have e : a = b := by
          apply UInt8.toNat_inj.1
          rw [u8_lt_iff] at *; omega
        rw [e, cmpL_zero h]

theorem cmpL_trans : ∀ {a b c : Lab}, cmpL a b ≤ 0 → cmpL b c ≤ 0 → cmpL a c ≤ 0
  | [], _, [], _, _ => Int.le_refl _
  | [], _, _ :: _, _, _ => by show (-1 : Int) ≤ 0; omega
  | a :: l, [], _, h, _ => by exact absurd h (by show ¬ (1 : Int) ≤ 0; omega)
  | a :: l, b :: m, [], _, h => by exact absurd h (by show ¬ (1 : Int) ≤ 0; omega)
  | a :: l, b :: m, c :: n, h1, h2 => by
    change (if a < b then (-1 : Int) else if b < a then 1 else cmpL l m) ≤ 0 at h1
    change (if b < c then (-1 : Int) else if c < b then 1 else cmpL m n) ≤ 0 at h2
    show (if a < c then (-1 : Int) else if c < a then 1 else cmpL l n) ≤ 0
    by_cases e1 : a < b
    · have e3 : ¬ c < b ∨ c < b := by by_cases h : c < b <;> simp [h]
      by_cases e2 : c < b
      · have e4 : ¬ b < c := by rw [u8_lt_iff] at *; omega
        rw [if_neg e4, if_pos e2] at h2; omega
      · have : a < c := by rw [u8_lt_iff] at *; omega
        rw [if_pos this]; omega
    · by_cases e2 : b < a
      · rw [if_neg e1, if_pos e2] at h1; omega
      · have e : a = b := by
          apply UInt8.toNat_inj.1
          rw [u8_lt_iff] at *; omega
        subst e
        rw [if_neg e1, if_neg e2] at h1
        by_cases e3 : a < c
        · rw [if_pos e3]; omega
        · by_cases e4 : c < a
          · rw [if_neg e3, if_pos e4] at h2; omega
          · rw [if_neg e3, if_neg e4] at h2
            rw [if_neg e3, if_neg e4]
            exact cmpL_trans h1 h2

def leL (a b : Lab) : Bool := decide (cmpL a b ≤ 0)
def sortK (l : List Lab) : List Lab := l.mergeSort leL

theorem leL_trans (a b c : Lab) (h1 : leL a b = true) (h2 : leL b c = true) : leL a c = true := by
  simp only [leL, decide_eq_true_eq] at *; exact cmpL_trans h1 h2
theorem leL_total (a b : Lab) : (leL a b || leL b a) = true := by
  simp only [leL, Bool.or_eq_true, decide_eq_true_eq]
  have := cmpL_neg a b; omega
theorem leL_anti {a b : Lab} (h1 : leL a b = true) (h2 : leL b a = true) : a = b := by
  simp only [leL, decide_eq_true_eq] at *
  have := cmpL_neg a b
  exact cmpL_zero (by omega)

theorem sortK_perm (l : List Lab) : (sortK l).Perm l := List.mergeSort_perm _ _
theorem sortK_sorted (l : List Lab) : (sortK l).Pairwise (fun a b => leL a b = true) := List.pairwise_mergeSort leL_trans leL_total l
theorem sorted_eq {l m : List Lab} (h1 : l.Pairwise (fun a b => leL a b = true)) (h2 : m.Pairwise (fun a b => leL a b = true)) (hp : l.Perm m) : l = m :=
  List.Perm.eq_of_pairwise (fun _ _ _ _ => leL_anti) h1 h2 hp
theorem sortK_congr {l m : List Lab} (h : l.Perm m) : sortK l = sortK m :=
  sorted_eq (sortK_sorted l) (sortK_sorted m) ((sortK_perm l).trans (h.trans (sortK_perm m).symm))
end Go.Proofs.Ytciadbhnodgpgaa
