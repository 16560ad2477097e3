/-
  Texts of a proof, joined: R1, L0, M3a, K14, R2, K13, N1, N2, R3, Q1, Q2, QCcn, QCcu, QCct, Q0uint32, Q3, K15, K16, D0, D1, D2.
  Conditions: none.
-/
import Derived.Test.YtopbbjdembnfdaaGreatJP02
import Derived.Test.YtopbbjdembnfdaaGreatProg
import Derived.Shelf.Small.Strs
import Derived.CallsIn
import Derived.Laws.Externs
set_option linter.unusedVariables false
set_option linter.unusedSimpArgs false
set_option linter.defProp false
set_option linter.unnecessarySimpa false
namespace Go.Proofs.YtopbbjdembnfdaaGreat
open Go
set_option maxRecDepth 10000
theorem bytesLt_cmp : ∀ a b : Lab, bytesLt a b = decide (cmpL a b < 0)
 | [], [] => rfl
 | [], _ :: _ => rfl
 | _ :: _, [] => rfl
 | a :: l, b :: m => by
  show (decide (a < b) || (a == b && bytesLt l m)) = decide ((if a < b then (-1 : Int) else if b < a then 1 else cmpL l m) < 0)
  by_cases h1 : a < b
  ·simp [h1]
  ·by_cases h2 : b < a
   ·have : ¬ a = b := by rintro rfl; exact h1 h2
    simp [h1, h2, this]
   ·have : a = b := by apply UInt8.toNat_inj.1; rw [u8_lt_iff] at *; omega
    subst this
    simp [h1, bytesLt_cmp l m]
theorem cmpL_cases : ∀ a b : Lab, cmpL a b = -1 ∨ cmpL a b = 0 ∨ cmpL a b = 1
 | [], [] => .inr (.inl rfl)
 | [], _ :: _ => .inl rfl
 | _ :: _, [] => .inr (.inr rfl)
 | a :: l, b :: m => by
  show (if a < b then (-1 : Int) else if b < a then 1 else cmpL l m) = -1 ∨ (if a < b then (-1 : Int) else if b < a then 1 else cmpL l m) = 0 ∨ (if a < b then (-1 : Int) else if b < a then 1 else cmpL l m) = 1
  by_cases h1 : a < b
  ·simp [h1]
  ·by_cases h2 : b < a
   ·simp [h1, h2]
   ·simp only [h1, h2, if_false]; exact cmpL_cases l m
theorem cmpL_lt_trans {a b c : Lab} (h1 : cmpL a b < 0) (h2 : cmpL b c ≤ 0) : cmpL a c < 0 := by
 have h3 := cmpL_trans (Int.le_of_lt h1) h2
 by_cases h : cmpL a c = 0
 ·have := cmpL_zero h
  subst this
  have := cmpL_neg a b
  omega
 ·omega
theorem ROrder_ok (w : World) (a b : Lab) : Fn Tryz.prog 217 #[vs a, vs b] w (fun v w' => v = vi (cmpL a b) ∧ Ext w w') := by
 have hc := cmpL_cases a b
 have h1 := bytesLt_cmp a b
 have h2 : cmpL a b = 0 ↔ a = b := ⟨cmpL_zero, fun h => by rw [h]; exact cmpL_self _⟩
 refine enter Tryz.func217 Tryz.ntmps217 rfl rfl ?_
 repeat (first | refine c_r ?_ | refine rg0 ?_)
 refine wc0 ?_ ?_
 ·intro ht
  rw [h1] at ht
  simp only [decide_eq_true_eq] at ht
  repeat (first | refine c_r ?_ | refine rg0 ?_)
  refine rt0 Tryz.ntmps217 ?_
  exact ⟨by congr 1; omega, Keep.refl _ _⟩
 ·intro hf
  rw [h1] at hf
  simp only [decide_eq_false_iff_not] at hf
  repeat (first | refine c_r ?_ | refine rg0 ?_)
  refine wc0 ?_ ?_
  ·intro ht
   rw [h1] at ht
   simp only [Bool.not_eq_true', Bool.or_eq_false_iff, decide_eq_false_iff_not] at ht
   repeat (first | refine c_r ?_ | refine rg0 ?_)
   refine rt0 Tryz.ntmps217 ?_
   refine ⟨?_, Keep.refl _ _⟩
   have : ¬ cmpL a b = 0 := fun h => ht.2 (h2.1 h)
   congr 1; omega
  ·intro hf2
   rw [h1] at hf2
   simp only [Bool.not_eq_false', Bool.or_eq_true, decide_eq_true_eq] at hf2
   repeat (first | refine c_r ?_ | refine rg0 ?_)
   refine rt0 Tryz.ntmps217 ?_
   refine ⟨?_, Keep.refl _ _⟩
   have : cmpL a b = 0 := h2.2 (hf2.resolve_left hf)
   rw [this]
theorem RCompareLabel_ok (w : World) (a b : Lab) (ha : a.length ≤ 9000000000000000000) (hb : b.length ≤ 9000000000000000000) : Fn Tryz.prog 200 #[vs a, vs b] w (fun v w' => v = vi (cmpL (foldL a) (foldL b)) ∧ Ext w w') := by
 refine enter Tryz.func200 Tryz.ntmps200 rfl rfl ?_
 repeat (first | refine c_r ?_ | refine rg0 ?_)
 refine rq ?_; intro gd K hgd hK
 try simp (disch := first | omega | assumption | rfl) only [↓reduceIte, go_sem, Nat.reduceLT, Nat.reduceEqDiff, Nat.reduceSub]
 refine Fn.mono (RFoldLabel_ok _ _ ha) ?_
 rintro _ w1 ⟨rfl, hE1⟩
 try simp (disch := first | omega | assumption | rfl) only [↓reduceIte, go_sem, Nat.reduceLT, Nat.reduceEqDiff, Nat.reduceSub]
 refine Fn.mono (RFoldLabel_ok _ _ hb) ?_
 rintro _ w2 ⟨rfl, hE2⟩
 try simp (disch := first | omega | assumption | rfl) only [↓reduceIte, go_sem, Nat.reduceLT, Nat.reduceEqDiff, Nat.reduceSub]
 refine Fn.mono (ROrder_ok _ _ _) ?_
 rintro _ w3 ⟨rfl, hE3⟩
 try simp (disch := first | omega | assumption | rfl) only [↓reduceIte, go_sem, Nat.reduceLT, Nat.reduceEqDiff, Nat.reduceSub]
 refine hK _ _ ?_; clear hK hgd; clear K; try clear gd
 repeat refine c_r ?_
 refine rt0 Tryz.ntmps200 ?_
 exact ⟨rfl, (hE1.trans hE2).trans hE3⟩
def sgn (n : Int) : Int := if n < 0 then -1 else if 0 < n then 1 else 0
theorem RSign_ok (w : World) (n : Int) : Fn Tryz.prog 201 #[vi n] w (fun v w' => v = vi (sgn n) ∧ Ext w w') := by
 refine enter Tryz.func201 Tryz.ntmps201 rfl rfl ?_
 repeat (first | refine c_r ?_ | refine rg0 ?_)
 refine wc0 ?_ ?_
 ·intro ht
  simp only [decide_eq_true_eq] at ht
  repeat (first | refine c_r ?_ | refine rg0 ?_)
  refine rt0 Tryz.ntmps201 ?_
  exact ⟨by rw [sgn, if_pos ht], Keep.refl _ _⟩
 ·intro hf
  simp only [decide_eq_false_iff_not] at hf
  repeat (first | refine c_r ?_ | refine rg0 ?_)
  refine wc0 ?_ ?_
  ·intro ht
   simp only [decide_eq_true_eq] at ht
   repeat (first | refine c_r ?_ | refine rg0 ?_)
   refine rt0 Tryz.ntmps201 ?_
   exact ⟨by rw [sgn, if_neg hf, if_pos ht], Keep.refl _ _⟩
  ·intro hf2
   simp only [decide_eq_false_iff_not] at hf2
   repeat (first | refine c_r ?_ | refine rg0 ?_)
   refine rt0 Tryz.ntmps201 ?_
   exact ⟨by rw [sgn, if_neg hf, if_neg hf2], Keep.refl _ _⟩
def cmpR : Nm → Nm → Int
 | [], [] => 0
 | [], _ :: _ => -1
 | _ :: _, [] => 1
 | a :: l, b :: m => if cmpL a b = 0 then cmpR l m else cmpL a b
def cmpN (a b : Nm) : Int := cmpR a.reverse b.reverse
theorem cmpR_nil : ∀ a b : Nm, a = [] ∨ b = [] → cmpR a b = sgn ((a.length : Int) - b.length)
 | [], [], _ => rfl
 | [], _ :: _, _ => by simp only [cmpR, sgn, List.length_cons, List.length_nil]; rw [if_pos (by omega)]
 | _ :: _, [], _ => by simp only [cmpR, sgn, List.length_cons, List.length_nil]; rw [if_neg (by omega), if_pos (by omega)]
 | _ :: _, _ :: _, h => by simp at h
theorem cmpR_step {a b : Nm} {i : Nat} (ha : i < a.length) (hb : i < b.length) : cmpR (a.drop i) (b.drop i) = if cmpL a[i] b[i] = 0 then cmpR (a.drop (i + 1)) (b.drop (i + 1)) else cmpL a[i] b[i] := by
 rw [List.drop_eq_getElem_cons ha, List.drop_eq_getElem_cons hb]; rfl
theorem RCompare_ok (w : World) (a b : Value) (xs ys : Nm) (ha : Row w a (xs.map vs)) (hb : Row w b (ys.map vs)) (hx : LB xs) (hy : LB ys) (hxl : xs.length ≤ 9000000000000000000) (hyl : ys.length ≤ 9000000000000000000) :
  Fn Tryz.prog 160 #[a, b] w (fun v w' => v = vi (cmpN (foldN xs) (foldN ys)) ∧ Ext w w') := by
 obtain ⟨a, ca, rfl, hca, hla⟩ := ha
 obtain ⟨b, cb, rfl, hcb, hlb⟩ := hb
 simp only [List.length_map] at *
 refine enter Tryz.func160 Tryz.ntmps160 rfl rfl ?_
 repeat (first | refine c_r ?_ | refine rg0 ?_)
 refine W_loop (fun m σ ds v => ds = [] ∧ ∃ i : Nat, i + m = xs.length ∧ i ≤ ys.length ∧ σ 5 = vi (i + 1) ∧ σ 0 = .slice a xs.length ca ∧ σ 1 = .slice b ys.length cb ∧ Ext w v ∧ cmpN (foldN xs) (foldN ys) = cmpR ((foldN xs).reverse.drop i) ((foldN ys).reverse.drop i)) xs.length ?_ ?_
 ·refine ⟨rfl, 0, by omega, by omega, ?_, ?_, ?_, Keep.refl _ _, by simp [cmpN]⟩ <;> simp only [↓reduceIte, go_sem, Nat.reduceLT, Nat.reduceEqDiff, Nat.reduceSub] <;> rfl
 ·rintro m σ ds v ⟨rfl, i, him, hiy, h5, h0, h1, hE, hinv⟩
  repeat refine c_r ?_
  refine rq ?_; intro gd K hgd hK
  have hg4 : ∀ n σ b, wantV gd n σ (some (4, b)) = boolIs (ev n σ (.tmp 11)) b := (fun n σ b => by rw [wantV_some, show gd 4 = some 11 from (by rw [hgd]; rfl)]; rfl)
  have hstep : ∀ (c : Bool), (c = true ↔ i < xs.length ∧ i < ys.length) → c = false → cmpR ((foldN xs).reverse.drop i) ((foldN ys).reverse.drop i) = sgn ((xs.length : Int) - ys.length) := fun c hc hf => by
   have hno : ¬ (i < xs.length ∧ i < ys.length) := fun h => by rw [hc.2 h] at hf; cases hf
   have e1 : ((foldN xs).reverse.drop i).length = xs.length - i := by simp [foldN_len]
   have e2 : ((foldN ys).reverse.drop i).length = ys.length - i := by simp [foldN_len]
   rw [cmpR_nil _ _ (by
    rcases Nat.lt_or_ge i xs.length with h | h
    ·exact .inr (List.length_eq_zero_iff.1 (by omega))
    ·exact .inl (List.length_eq_zero_iff.1 (by omega))), e1, e2]
   congr 1; omega
  by_cases hlx : ((i : Int) + 1 ≤ xs.length)
  ·try simp (disch := first | omega | assumption | rfl) only [↓reduceIte, go_sem, Nat.reduceLT, Nat.reduceEqDiff, Nat.reduceSub, h5, h0, h1, decide_eq_true hlx, ↓hg4]
   refine hK _ _ ?_; clear hK hgd; clear K; try clear gd
   repeat refine c_r ?_
   refine wc0 ?_ ?_
   ·intro hly
    simp only [decide_eq_true_eq] at hly
    have hsa : a.isSome = true := some_of_cellO (hla (xs.length - 1 - i) (by omega))
    have hsb : b.isSome = true := some_of_cellO (hlb (ys.length - 1 - i) (by omega))
    repeat refine c_r ?_
    refine W_drw (fun _ => false) [(0, true), (1, true), (2, true), (3, true), (4, true), (5, true), (6, true), (7, true), (8, true), (9, true), (10, true), (11, true), (12, true), (13, true), (14, false), (15, true)] NoS mixed (by kernel_rfl) ?_; intro gd K x hgd hx hxe hK; clear hxe
    have hla' := fun j h => cellO_ext (hE.trans hx) (hla j h)
    have hlb' := fun j h => cellO_ext (hE.trans hx) (hlb j h)
    have e1 : ((xs.length : Int) - (i + 1)).toNat = xs.length - 1 - i := by omega
    have e2 : ((ys.length : Int) - (i + 1)).toNat = ys.length - 1 - i := by omega
    simp (disch := first | omega | assumption) only [↓reduceIte, go_sem, Nat.reduceLT, Nat.reduceEqDiff, Nat.reduceSub, h5, h0, h1, e1, e2, hla', hlb', List.getElem_map]
    refine Fn.mono (RCompareLabel_ok _ _ _ (LB.get ‹LB xs› _) (LB.get ‹LB ys› _)) ?_
    rintro _ x1 ⟨rfl, hx1⟩
    refine ⟨.inr hx1, ?_⟩
    simp (disch := first | omega | assumption | rfl) only [↓reduceIte, go_sem, Nat.reduceLT, Nat.reduceEqDiff, Nat.reduceSub]
    refine hK _ _ ?_; clear hK hgd; clear K; try clear gd
    have hst := cmpR_step (a := (foldN xs).reverse) (b := (foldN ys).reverse) (i := i) (by simp [foldN_len]; omega) (by simp [foldN_len]; omega)
    have g1 : (foldN xs).reverse[i]'(by simp [foldN_len]; omega) = foldL (xs[xs.length - 1 - i]'(by omega)) := by
     rw [List.getElem_reverse]; simp [foldN]
    have g2 : (foldN ys).reverse[i]'(by simp [foldN_len]; omega) = foldL (ys[ys.length - 1 - i]'(by omega)) := by
     rw [List.getElem_reverse]; simp [foldN]
    rw [g1, g2] at hst
    repeat refine c_r ?_
    refine rg0 ?_
    repeat refine c_r ?_
    refine wc0 ?_ ?_
    ·intro hne
     simp only [Bool.not_eq_true', decide_eq_false_iff_not] at hne
     repeat (first | refine c_r ?_ | refine rg0 ?_)
     refine rt0 Tryz.ntmps160 ?_
     refine ⟨by rw [hinv, hst, if_neg hne], (hE.trans hx).trans hx1⟩
    ·intro heq
     simp only [Bool.not_eq_false', decide_eq_true_eq] at heq
     repeat refine c_r ?_
     refine rq ?_; intro gd K hgd hK
     try simp (disch := first | omega | assumption | rfl) only [↓reduceIte, go_sem, Nat.reduceLT, Nat.reduceEqDiff, Nat.reduceSub, h5]
     refine hK _ _ ?_; clear hK hgd; clear K; try clear gd
     repeat refine c_r ?_
     refine ⟨m - 1, by omega, rfl, i + 1, by omega, by omega, ?_, ?_, ?_, (hE.trans hx).trans hx1, ?_⟩
     ·simp only [↓reduceIte, go_sem, Nat.reduceLT, Nat.reduceEqDiff, Nat.reduceSub]; push_cast; rfl
     ·simp only [↓reduceIte, go_sem, Nat.reduceLT, Nat.reduceEqDiff, Nat.reduceSub, h0]
     ·simp only [↓reduceIte, go_sem, Nat.reduceLT, Nat.reduceEqDiff, Nat.reduceSub, h1]
     ·rw [hinv, hst, if_pos heq]
   ·intro hge
    simp only [decide_eq_false_iff_not] at hge
    repeat refine c_r ?_
    refine rq ?_; intro gd K hgd hK
    try simp (disch := first | omega | assumption | rfl) only [↓reduceIte, go_sem, Nat.reduceLT, Nat.reduceEqDiff, Nat.reduceSub, h0, h1]
    refine Fn.mono (RSign_ok _ _) ?_
    rintro _ w2 ⟨rfl, hE2⟩
    try simp (disch := first | omega | assumption | rfl) only [↓reduceIte, go_sem, Nat.reduceLT, Nat.reduceEqDiff, Nat.reduceSub]
    refine hK _ _ ?_; clear hK hgd; clear K; try clear gd
    repeat refine c_r ?_
    refine rt0 Tryz.ntmps160 ?_
    exact ⟨by rw [hinv, hstep false (by simp; omega) rfl], hE.trans hE2⟩
  ·try simp (disch := first | omega | assumption | rfl) only [↓reduceIte, go_sem, Nat.reduceLT, Nat.reduceEqDiff, Nat.reduceSub, h5, h0, h1, decide_eq_false hlx, ↓hg4]
   refine hK _ _ ?_; clear hK hgd; clear K; try clear gd
   repeat refine c_r ?_
   refine wc0 ?_ ?_
   ·intro h; simp at h
   ·intro _
    repeat refine c_r ?_
    refine rq ?_; intro gd K hgd hK
    try simp (disch := first | omega | assumption | rfl) only [↓reduceIte, go_sem, Nat.reduceLT, Nat.reduceEqDiff, Nat.reduceSub, h0, h1]
    refine Fn.mono (RSign_ok _ _) ?_
    rintro _ w2 ⟨rfl, hE2⟩
    try simp (disch := first | omega | assumption | rfl) only [↓reduceIte, go_sem, Nat.reduceLT, Nat.reduceEqDiff, Nat.reduceSub]
    refine hK _ _ ?_; clear hK hgd; clear K; try clear gd
    repeat refine c_r ?_
    refine rt0 Tryz.ntmps160 ?_
    exact ⟨by rw [hinv, hstep false (by simp; omega) rfl], hE.trans hE2⟩
end Go.Proofs.YtopbbjdembnfdaaGreat
namespace Go.Proofs
open Go.Shelf
def Tryz.lays106_ren : Go.Shelf.Ren := ⟨fun | 106 => 170 | 213 => 207 | 265 => 235 | n => n, fun | 9 => 9 | 3 => 3 | n => n, fun | n => n⟩
theorem Tryz.lays106 : Go.Proofs.Lays.n106 Tryz.prog Tryz.lays106_ren := {
 mixed := by kernel_rfl
 f106 := Tryz.func170.trans (congrArg some (by kernel_rfl))
 f213 := Tryz.func207.trans (congrArg some (by kernel_rfl))
 f265 := Tryz.func235.trans (congrArg some (by kernel_rfl))
 t3 := Tryz.underlying3
 a3 := Tryz.isAgg3
 z3 := Tryz.sizeOf3
 v3 := Tryz.zeroValue3
 t9 := Tryz.underlying9
 a9 := Tryz.isAgg9
 z9 := Tryz.sizeOf9
 v9 := Tryz.zeroValue9 }
end Go.Proofs
namespace Go.Proofs.YtopbbjdembnfdaaGreat
open Go
set_option maxRecDepth 10000
theorem Fn.of_calls {P : Program} {f : FuncId} {args : Array Value} {w : World} {R : Value → World → Prop} (h : Calls P f args w (fun e w' => ∃ v, e = .returned v ∧ R v w')) : Fn P f args w R := callsIn_wide.2 h
theorem SCompare_ok (w : World) (a b : Lab) : Fn Tryz.prog 170 #[vs a, vs b] w (fun v w' => v = vi (cmpL a b) ∧ w' = w) :=
 Fn.of_calls (Calls.mono (Any.strings_Compare Tryz.lays106 ⟨a.toArray⟩ ⟨b.toArray⟩ w) fun _ _ ⟨he, hw⟩ => ⟨_, he, rfl, hw⟩)
theorem LCompare_ok (w : World) (a b : Lab) (ha : a.length ≤ 9000000000000000000) (hb : b.length ≤ 9000000000000000000) : Fn Tryz.prog 119 #[vs a, vs b] w (fun v w' => v = vi (cmpL (foldL a) (foldL b)) ∧ Ext w w') := by
 refine enter Tryz.func119 Tryz.ntmps119 rfl rfl ?_
 repeat (first | refine c_r ?_ | refine rg0 ?_)
 refine rq ?_; intro gd K hgd hK
 try simp (disch := first | omega | assumption | rfl) only [↓reduceIte, go_sem, Nat.reduceLT, Nat.reduceEqDiff, Nat.reduceSub]
 refine Fn.mono (LFold_ok _ _ ha) ?_
 rintro _ w1 ⟨rfl, hE1⟩
 try simp (disch := first | omega | assumption | rfl) only [↓reduceIte, go_sem, Nat.reduceLT, Nat.reduceEqDiff, Nat.reduceSub]
 refine Fn.mono (LFold_ok _ _ hb) ?_
 rintro _ w2 ⟨rfl, hE2⟩
 try simp (disch := first | omega | assumption | rfl) only [↓reduceIte, go_sem, Nat.reduceLT, Nat.reduceEqDiff, Nat.reduceSub]
 refine Fn.mono (SCompare_ok _ _ _) ?_
 rintro _ w3 ⟨rfl, rfl⟩
 try simp (disch := first | omega | assumption | rfl) only [↓reduceIte, go_sem, Nat.reduceLT, Nat.reduceEqDiff, Nat.reduceSub]
 refine hK _ _ ?_; clear hK hgd; clear K; try clear gd
 repeat refine c_r ?_
 refine rt0 Tryz.ntmps119 ?_
 exact ⟨rfl, hE1.trans hE2⟩
theorem s_clip {P : Program} {e : TypeId} {ad : Option Addr} {n c : Nat} {k k' : IntKind} (h : n ≤ c) (hi : (P.info? e).isSome = true) :
  slD P (some (.slice e)) (.slice ad n c) Option.none (some (.int k n)) (some (.int k' n)) = some (.slice ad n n) := by
 have e1 : slB Option.none = some 0 := rfl
 have e2 : ∀ (k : IntKind) (d : Nat), slH (some (.int k (n : Int))) d = some n := fun k d => by simp [slH]
 simp only [slD, e1, e2]
 simp [h, hi, adr_zero]
--?? slices.Clip[[]string,string]
def Own (B : Nat) (w : World) (e : TypeId) (v : Value) (l : List Value) : Prop := w.ownsRow B e 1 v l.length l
section
variable {P : Program} {d : Option Tmp} {ty : TypeId} {ps : String} {af : Array Edge} {g : Option (Nat × Bool)} {ρ : Operand → Value} {w : World} {K : Value → World → Prop}
theorem Own.slice {B : Nat} {e : TypeId} {v : Value} {l : List Value} (h : Own B w e v l) : ∃ a c, v = .slice a l.length c := by
 rcases h.2 with ⟨rfl, h0⟩ | ⟨g, cap, cur, rfl, _⟩
 ·exact ⟨_, _, by rw [h0]⟩
 ·exact ⟨_, _, rfl⟩
theorem Own.row {B : Nat} {e : TypeId} {v : Value} {l : List Value} (h : Own B w e v l) : Row w v l := Row.of_owns h
theorem Own.rowB {B : Nat} {e : TypeId} {v : Value} {l : List Value} (h : Own B w e v l) : RowB B w v l := RowB.of_owns h
theorem Own.nil (B : Nat) (w : World) (e : TypeId) : Own B w e (.slice Option.none 0 0) [] := ⟨rfl, .inl ⟨rfl, rfl⟩⟩
theorem Own.ge {B : Nat} {e : TypeId} {v : Value} {l : List Value} (h : Own B w e v l) {b : Nat} (hb : some b = v.ownBlock) : B ≤ b ∧ b < w.heap.size := by
 rcases h.2 with ⟨rfl, _⟩ | ⟨g, cap, cur, rfl, hg, hc, _⟩
 ·cases hb
 ·cases hb; exact ⟨hg, (Array.getElem?_eq_some_iff.1 hc).1⟩
theorem Own.keep {B : Nat} {e : TypeId} {v : Value} {l : List Value} {x : World} {S : Nat → Prop} (h : Own B w e v l) (hk : Keep S w x) (hS : ∀ b, some b = v.ownBlock → ¬ S b) : Own B x e v l := by
 obtain ⟨h1, h2⟩ := h
 refine ⟨h1, ?_⟩
 rcases h2 with h2 | ⟨g, cap, cur, hv, hb, hg, rest⟩
 ·exact .inl h2
 ·exact .inr ⟨g, cap, cur, hv, hb, (hk.block _ (Array.getElem?_eq_some_iff.1 hg).1 (hS _ (by rw [hv]; rfl))).trans hg, rest⟩
theorem Own.ext {B : Nat} {e : TypeId} {v : Value} {l : List Value} {x : World} (h : Own B w e v l) (hk : Ext w x) : Own B x e v l := h.keep hk (fun _ _ h => h)
theorem Own.mono {B B' : Nat} {e : TypeId} {v : Value} {l : List Value} (h : Own B w e v l) (hB : B' ≤ B) : Own B' w e v l := by
 obtain ⟨h1, h2⟩ := h
 refine ⟨h1, ?_⟩
 rcases h2 with h2 | ⟨g, cap, cur, hv, hb, rest⟩
 ·exact .inl h2
 ·exact .inr ⟨g, cap, cur, hv, by omega, rest⟩
theorem bs_one {t e : TypeId} {z v : Value} (hu : tyU P t = some (.slice e)) (hz : tyZ P e = some z) (hs : tyS P e = 1) (hz1 : z.cells = #[z]) (hv : v.cells = #[v])
  (h : ∀ w1, Ext w w1 → w1.heap.size = w.heap.size + 1 → Own w.heap.size w1 e (.slice (some ⟨w.heap.size, 0, Option.none⟩) 1 1) [v] → K (.slice (some ⟨w.heap.size, 0, Option.none⟩) 1 1) w1) : bsL P t 1 [(0, v)] w K .mk := by
 unfold bsL bsK
 rw [bsC_one hu hz hs hz1 hv]
 exact h _ (Ext.alloc w _) (new_size w _) ⟨rfl, .inr ⟨w.heap.size, 1, #[v], rfl, Nat.le_refl _, new_block w _, Nat.le_refl _, by decide, rfl, rfl⟩⟩
theorem set2 {A : Array Value} (h : A.size = 2) (u v : Value) : (A.setIfInBounds 0 u).setIfInBounds 1 v = #[u, v] := by
 obtain ⟨l⟩ := A
 match l, h with
 | [x, y], _ => rfl
theorem bs_two {t e : TypeId} {z u v : Value} (hu : tyU P t = some (.slice e)) (hz : tyZ P e = some z) (hs : tyS P e = 1) (hz1 : z.cells = #[z]) (hu1 : u.cells = #[u]) (hv : v.cells = #[v])
  (h : ∀ w1, Ext w w1 → w1.heap.size = w.heap.size + 1 → Own w.heap.size w1 e (.slice (some ⟨w.heap.size, 0, Option.none⟩) 2 2) [u, v] → K (.slice (some ⟨w.heap.size, 0, Option.none⟩) 2 2) w1) : bsL P t 2 [(0, u), (1, v)] w K .mk := by
 unfold bsL bsK
 have : bsC P t 2 [(0, u), (1, v)] = some (e, #[u, v]) := by
  simp [bsC, hu, hz, hs, hz1, Instr.fill, hu1, hv]
  exact set2 (by simp) u v
 rw [this]
 exact h _ (Ext.alloc w _) (new_size w _) ⟨rfl, .inr ⟨w.heap.size, 2, #[u, v], rfl, Nat.le_refl _, new_block w _, Nat.le_refl _, by decide, rfl, rfl⟩⟩
theorem bs_nil {t e : TypeId} {z : Value} (hu : tyU P t = some (.slice e)) (hz : tyZ P e = some z) (hs : tyS P e = 1) (hz1 : z.cells = #[z])
  (h : ∀ w1, Ext w w1 → w1.heap.size = w.heap.size + 1 → Own w.heap.size w1 e (.slice (some ⟨w.heap.size, 0, Option.none⟩) 0 0) [] → K (.slice (some ⟨w.heap.size, 0, Option.none⟩) 0 0) w1) : bsL P t 0 [] w K .mk := by
 unfold bsL bsK
 have : bsC P t 0 [] = some (e, #[]) := by simp [bsC, hu, hz, hs, hz1, Instr.fill]
 rw [this]
 exact h _ (Ext.alloc w _) (new_size w _) ⟨rfl, .inr ⟨w.heap.size, 0, #[], rfl, Nat.le_refl _, new_block w _, Nat.le_refl _, by decide, rfl, rfl⟩⟩
theorem op_app {B : Nat} {s x : Operand} {t e : TypeId} {inf : TypeInfo} {z : Value} {bytes : Nat} {v u : Value} {l news : List Value} (hown : Own B w e v l) (hrow : Row w u news)
  (ht : tyU P t = some (.slice e)) (hi : P.info? e = some inf) (hz : inf.zero = some z)
  (hsize : inf.size = 1) (hby : inf.bytes = bytes) (hzs : z.cells.size = 1) (hv : ρ s = v) (hu : ρ x = u) 
  (h1 : ∀ q ∈ news, one q = true) (hlen : l.length + news.length ≤ 1000000000000) (hbytes : bytes ≤ 100) (hB : B ≤ w.heap.size)
  (h : ∀ v' w', Own B w' e v' (l ++ news) → (∀ w0, Ext w0 w → w0.heap.size ≤ B → Ext w0 w') → Keep (fun b => some b = v.ownBlock) w w' → (∀ b, some b = v'.ownBlock → some b = v.ownBlock ∨ w.heap.size ≤ b) → K v' w') :
  opW P ⟨d, .call ⟨.builtin .append, #[s, x], #[t, t]⟩, ty, ps, af, g⟩ ρ w K := by
 refine op_append (B := B) (m := news.length) (xs := l) (n := l.length) ht hi hz hsize hby hzs (by decide) hv hu hown (Src1.of_row hrow) h1 (by simp [maxLen]; omega) ?_ hB ?_
 ·have : (l.length + news.length) * bytes ≤ 1000000000000 * 100 := Nat.mul_le_mul hlen hbytes
  omega
 ·intro v' w' ho hk hw
  refine h v' w' (by simpa [Own] using ho) (fun w0 hE hB0 => ?_) hk hw.2
  exact Keep.to_ext hE rfl (fun b hb => by have := (Own.ge (l := l) hown hb).1; omega) hk
theorem v_min (a : Array Operand) (t : Array TypeId) : opV P ⟨d, .call ⟨.builtin .min, a, t⟩, ty, ps, af, g⟩ ρ w K = opL P ⟨d, .call ⟨.builtin .min, a, t⟩, ty, ps, af, g⟩ ρ w K .mk := nr rfl
theorem op_min {x y : Operand} {ts : Array TypeId} {k : IntKind} {a b : Int} (hx : ρ x = .int k a) (hy : ρ y = .int k b) (h : K (.int k (min a b)) w) : opW P ⟨d, .call ⟨.builtin .min, #[x, y], ts⟩, ty, ps, af, g⟩ ρ w K := by
 simp only [opW, execOp, Sem.run_bind, resolve]
 simp only [Sem.run_pure, Result.andThen_ok, invoke, builtin]
 refine opR_val (s := Builtin.min_ ts ty (Array.map ρ #[x, y])) (v := .int k (min a b)) (w' := w) ?_ h
 simp [Builtin.min_, hx, hy, Builtin.min2, Sem.run, List.foldlM]
 omega
end
attribute [go_sem] b_quo b_rem
attribute [go_sem ↓] v_min
theorem ones_vs (l : List Lab) : ∀ q ∈ l.map vs, one q = true := fun q hq => by
 obtain ⟨s, _, rfl⟩ := List.mem_map.1 hq
 rfl
theorem RFold_ok (w : World) (a : Value) (xs : Nm) (ha : Row w a (xs.map vs)) (hx : LB xs) (hxl : xs.length ≤ 100000000000) :
  Fn Tryz.prog 111 #[a] w (fun v w' => Own w.heap.size w' 9 v ((foldN xs).map vs) ∧ Ext w w') := by
 obtain ⟨a, ca, rfl, hca, hla⟩ := ha
 simp only [List.length_map] at *
 refine enter Tryz.func111 Tryz.ntmps111 rfl rfl ?_
 repeat (first | refine c_r ?_ | refine rg0 ?_)
 refine W_loop (fun m σ ds A => ds = [] ∧ ∃ i : Nat, ∃ v, i + m = xs.length ∧ σ 4 = vi i ∧ σ 0 = .slice a xs.length ca ∧ σ 3 = v ∧ Ext w A ∧ Own w.heap.size A 9 v ((foldN (xs.take i)).map vs)) xs.length ?_ ?_
 ·refine ⟨rfl, 0, _, by omega, ?_, ?_, ?_, Keep.refl _ _, Own.nil _ _ _⟩ <;> simp only [↓reduceIte, go_sem, Nat.reduceLT, Nat.reduceEqDiff, Nat.reduceSub] <;> rfl
 ·rintro m σ ds A ⟨rfl, i, v, him, h4, h0, h3, hE, hown⟩
  repeat refine c_r ?_
  refine rg2 h4 h0 ?_
  repeat refine c_r ?_
  refine wc0 ?_ ?_
  ·intro hlt
   simp only [decide_eq_true_eq] at hlt
   have hsa : a.isSome = true := some_of_cellO (hla i (by omega))
   have hla' := fun j h => cellO_ext hE (hla j h)
   repeat refine c_r ?_
   refine rq ?_; intro gd K hgd hK
   try simp (disch := first | omega | assumption | rfl) only [↓reduceIte, go_sem, Nat.reduceLT, Nat.reduceEqDiff, Nat.reduceSub, h4, h0, h3, hla', List.getElem_map]
   refine Fn.mono (RFoldLabel_ok _ _ (LB.get hx _)) ?_
   rintro _ w1 ⟨rfl, hE1⟩
   try simp (disch := first | omega | assumption | rfl) only [↓reduceIte, go_sem, Nat.reduceLT, Nat.reduceEqDiff, Nat.reduceSub]
   refine bs_one (z := vs []) rfl rfl rfl rfl rfl ?_
   intro w2 hE2 hs2 ho2
   try simp (disch := first | omega | assumption | rfl) only [↓reduceIte, go_sem, Nat.reduceLT, Nat.reduceEqDiff, Nat.reduceSub]
   refine op_app ((hown.ext hE1).ext hE2) ho2.row rfl rfl rfl rfl rfl rfl ((vq1 h3)) (vr0) (ones_vs [_]) (by simp [foldN]; omega) (by decide) (by have := hE.size; have := hE1.size; omega) ?_
   intro v' w3 ho3 hE3 _ _
   try simp (disch := first | omega | assumption | rfl) only [↓reduceIte, go_sem, Nat.reduceLT, Nat.reduceEqDiff, Nat.reduceSub]
   refine hK _ _ ?_; clear hK hgd; clear K; try clear gd
   repeat refine c_r ?_
   refine rg1 h4 ?_
   repeat refine c_r ?_
   refine ⟨m - 1, by omega, rfl, i + 1, _, by omega, by simp only [↓reduceIte, go_sem, Nat.reduceLT, Nat.reduceEqDiff, Nat.reduceSub]; push_cast; rfl, (vq1 h0), by simp only [↓reduceIte, go_sem, Nat.reduceLT, Nat.reduceEqDiff, Nat.reduceSub]; rfl, hE3 _ ((hE.trans hE1).trans hE2) (Nat.le_refl _), ?_⟩
   rw [foldN_take (by omega), List.map_append]; exact ho3
  ·intro hge
   simp only [decide_eq_false_iff_not] at hge
   repeat refine c_r ?_
   refine rg1 h3 ?_
   repeat refine c_r ?_
   refine rt0 Tryz.ntmps111 ?_
   rw [List.take_of_length_le (by omega)] at hown
   exact ⟨hown, hE⟩
def few (n : Nm) : Bool := decide (n.length ≤ 140) && n.all fun l => decide (l.length ≤ 100)
theorem few_lb {n : Nm} (h : few n = true) : LB n := fun l hl => by
 simp only [few, Bool.and_eq_true, List.all_eq_true, decide_eq_true_eq] at h
 have := h.2 l hl; omega
theorem few_len {n : Nm} (h : few n = true) : n.length ≤ 140 := by
 simp only [few, Bool.and_eq_true, decide_eq_true_eq] at h
 exact h.1
theorem Few_ok (w : World) (a : Value) (xs : Nm) (ha : Row w a (xs.map vs)) :
  Fn Tryz.prog 56 #[a] w (fun v w' => v = .bool (few xs) ∧ Ext w w') := by
 obtain ⟨a, ca, rfl, hca, hla⟩ := ha
 simp only [List.length_map] at *
 refine enter Tryz.func56 Tryz.ntmps56 rfl rfl ?_
 repeat (first | refine c_r ?_ | refine rg0 ?_)
 refine wc0 ?_ ?_
 ·intro h
  simp only [decide_eq_true_eq] at h
  repeat (first | refine c_r ?_ | refine rg0 ?_)
  refine rt0 Tryz.ntmps56 ?_
  exact ⟨by rw [few, decide_eq_false (by omega)]; rfl, Keep.refl _ _⟩
 ·intro h
  simp only [decide_eq_false_iff_not] at h
  repeat (first | refine c_r ?_ | refine rg0 ?_)
  refine W_loop (fun m σ ds A => ds = [] ∧ ∃ i : Nat, i + m = xs.length ∧ σ 3 = vi i ∧ σ 0 = .slice a xs.length ca ∧ Ext w A ∧ ∀ l ∈ xs.take i, l.length ≤ 100) xs.length ?_ ?_
  ·refine ⟨rfl, 0, by omega, ?_, ?_, Keep.refl _ _, by simp⟩ <;> simp only [↓reduceIte, go_sem, Nat.reduceLT, Nat.reduceEqDiff, Nat.reduceSub] <;> rfl
  ·rintro m σ ds A ⟨rfl, i, him, h3, h0, hE, hall⟩
   repeat refine c_r ?_
   refine rg2 h3 h0 ?_
   repeat refine c_r ?_
   refine wc0 ?_ ?_
   ·intro hlt
    simp only [decide_eq_true_eq] at hlt
    have hsa : a.isSome = true := some_of_cellO (hla i (by omega))
    have hla' := fun j h => cellO_ext hE (hla j h)
    repeat refine c_r ?_
    refine rq ?_; intro gd K hgd hK; simp (disch := first | omega | assumption | rfl) only [↓reduceIte, go_sem, Nat.reduceLT, Nat.reduceEqDiff, Nat.reduceSub, h3, h0, hla', List.getElem_map]; refine hK _ _ ?_; clear hK hgd; clear K gd
    repeat refine c_r ?_
    refine wc0 ?_ ?_
    ·intro hb
     simp only [decide_eq_true_eq] at hb
     repeat (first | refine c_r ?_ | refine rg0 ?_)
     refine rt0 Tryz.ntmps56 ?_
     refine ⟨?_, hE⟩
     have : few xs = false := by
      rw [← Bool.not_eq_true]
      intro hf
      simp only [few, Bool.and_eq_true, List.all_eq_true, decide_eq_true_eq] at hf
      have := hf.2 (xs[i]'(by omega)) (List.getElem_mem _)
      omega
     rw [this]
    ·intro hb
     simp only [decide_eq_false_iff_not] at hb
     repeat refine c_r ?_
     refine rg1 h3 ?_
     repeat refine c_r ?_
     refine ⟨m - 1, by omega, rfl, i + 1, by omega, by simp only [↓reduceIte, go_sem, Nat.reduceLT, Nat.reduceEqDiff, Nat.reduceSub]; push_cast; rfl, (vq1 h0), hE, fun l hl => ?_⟩
     rw [take_succ' (by omega)] at hl
     rcases List.mem_append.1 hl with hl | hl
     ·exact hall l hl
     ·rw [List.mem_singleton.1 hl]; omega
   ·intro hge
    simp only [decide_eq_false_iff_not] at hge
    repeat (first | refine c_r ?_ | refine rg0 ?_)
    refine rt0 Tryz.ntmps56 ?_
    refine ⟨?_, hE⟩
    rw [List.take_of_length_le (by omega)] at hall
    have : few xs = true := by
     simp only [few, Bool.and_eq_true, List.all_eq_true, decide_eq_true_eq]
     exact ⟨by omega, hall⟩
    rw [this]
theorem size_put (w : World) (r : Nat) (o : Obj) : (w.putObj r o).heap.size = w.heap.size := by simp
structure KeepR (n0 n1 : Nat) (X : Nat → Prop) (A B : World) : Prop where
 os : B.os = A.os
 tape : B.tape = A.tape
 output : B.output = A.output
 size : A.heap.size ≤ B.heap.size
 block : ∀ b, b < A.heap.size → (b < n0 ∨ n1 ≤ b) → ¬ X b → B.heap[b]? = A.heap[b]?
 drawn : A.drawn ≤ B.drawn
def IterU {α : Type} (P : Program) (g : FuncId) (cap : Array Value) (W0 : World) (n0 : Nat) (C : Nat → Prop) (own : Nat) (Pre : List α → α → Prop) (Full : List α → Prop) (enc : Nat → α → (Nat → Prop) → World → Array Value → Prop) : Prop :=
 ∀ (l : Nat) (J : List α → (Nat → Prop) → World → Prop) (Jx : List α → World → Prop) (W : World), Ext W0 W → n0 ≤ W.heap.size →
  (∀ pre U A B, J pre U A → Keep (span W.heap.size own) A B → J pre U B) → (∀ pre A B, Jx pre A → Keep (span W.heap.size own) A B → Jx pre B) →
  (∀ pre U x A args, Pre pre x → J pre U A → W.heap.size + own ≤ A.heap.size → KeepB n0 C W A → enc W.heap.size x U A args → Yld P l args A (fun v B =>
   (v = .bool true ∧ ∃ U', J (pre ++ [x]) U' B ∧ (∀ b, U' b → U b ∨ (A.heap.size ≤ b ∧ b < B.heap.size)) ∧ KeepR n0 W.heap.size (fun b => C b ∨ U b) A B) ∨ (v = .bool false ∧ Jx (pre ++ [x]) B))) →
  J [] NoS W → Fn P g (#[.func (.yield l) #[] #[]] ++ cap) W (fun _ B => (∃ xs U, Full xs ∧ J xs U B) ∨ ∃ pre x, Pre pre x ∧ Jx (pre ++ [x]) B)
def roundU {α : Type} (I : List α → (Nat → Prop) → World → Prop) (Ix : Code → List α → World → Prop) (C U : Nat → Prop) (pre' : List α) (A : World) : Post
 | .normal, _, _, B => ∃ U', I pre' U' B ∧ (∀ b, U' b → U b ∨ (A.heap.size ≤ b ∧ b < B.heap.size)) ∧ Keep (fun b => C b ∨ U b) A B
 | .ret, _, _, B => Ix .ret pre' B ∧ Keep (fun b => C b ∨ U b) A B
 | .exit id, _, _, B => Ix (.exit id) pre' B ∧ Keep (fun b => C b ∨ U b) A B
 | .goto t, _, _, B => Ix (.goto t) pre' B ∧ Keep (fun b => C b ∨ U b) A B
 | _, _, _, _ => False
theorem W_rangeU {α : Type} {P : Program} {n : Nat} {f : Operand} {ps : Array Tmp} {assign body : Code} {Q : Post} {σ : Sto} {ds : List Deferred} {w : World}
  {g : FuncId} {cap : Array Value} {W0 : World} {n0 : Nat} {C : Nat → Prop} {own : Nat} {Pre : List α → α → Prop} {Full : List α → Prop} {enc : Nat → α → (Nat → Prop) → World → Array Value → Prop}
  (hf : ev n σ f = .func (.func g) #[] cap) (hc : callable P g = true) (hit : IterU P g cap W0 n0 C own Pre Full enc) (hW0 : Ext W0 w) (hn0 : n0 ≤ w.heap.size) (hCn : ∀ b, C b → b < w.heap.size)
  (henc : ∀ x U A args, enc (w.heap.size + 2) x U A args → args.size = ps.size)
  (I : List α → (Nat → Prop) → World → Prop) (Ix : Code → List α → World → Prop)
  (hI : ∀ pre U A B, I pre U A → (∀ b, U b → w.heap.size + 2 + own ≤ b) → Keep (span w.heap.size (2 + own)) A B → I pre U B)
  (hIx : ∀ c pre A B, Ix c pre A → Keep (span w.heap.size (2 + own)) A B → Ix c pre B)
  (h0 : I [] NoS w)
  (hround : ∀ (l : Nat) (pre : List α) (U : Nat → Prop) (x : α) (A : World) (args : Array Value), Pre pre x → w.heap.size + 2 + own ≤ A.heap.size → I pre U A → (∀ b, U b → w.heap.size + 2 + own ≤ b ∧ b < A.heap.size) → enc (w.heap.size + 2) x U A args →
   W P (some l) n assign (thenQ (fun σ1 ds1 A1 => ds1 = [] ∧ Keep (fun b => C b ∨ U b) A A1 ∧ ∀ A2, Keep (two w.heap.size) A1 A2 → W P (some l) n body (roundU I Ix C U (pre ++ [x]) A2) σ1 [] A2) (fun _ _ _ _ => False))
    (setPs σ (ps.zip args).toList) [] A)
  (hdone : ∀ xs U w', Full xs → w.heap.size + 2 ≤ w'.heap.size → (∀ b, U b → w.heap.size + 2 + own ≤ b ∧ b < w'.heap.size) → I xs U w' → w'.heap[w.heap.size]? = some (.deferred (some [])) → Q .normal σ ({ target := .collected w.heap.size, args := #[] } :: ds) w')
  (hstop : ∀ c pre x w', w.heap.size + 2 ≤ w'.heap.size → Pre pre x → Ix c (pre ++ [x]) w' → w'.heap[w.heap.size]? = some (.deferred (some [])) →
   W P Option.none n c Q σ ({ target := .collected w.heap.size, args := #[] } :: ds) w') :
  W P Option.none n (.rangeFunc f ps assign body) Q σ ds w := by
 refine wpIn_rangeFunc ?_
 intro fn _
 generalize hrec : recOf fn (act n σ ds).tmps ps assign body w.heap.size = rec
 obtain ⟨W1, hW1⟩ : ∃ W1, (w.alloc (.deferred (some []))).alloc (.loop (rec .ready Option.none)) = W1 := ⟨_, rfl⟩
 have hsz1 : W1.heap.size = w.heap.size + 2 := by rw [← hW1]; simp
 have hL1 : W1.heap[w.heap.size + 1]? = some (.loop (rec .ready Option.none)) := by
  rw [← hW1]; have := World.alloc_heap_new (w.alloc (.deferred (some []))) (.loop (rec .ready Option.none)); rwa [World.size_alloc] at this
 have hK1 : W1.heap[w.heap.size]? = some (.deferred (some [])) := by
  rw [← hW1]; exact (RowKit.Below.heap_alloc _ _ _ (by simp)).trans (World.alloc_heap_new w _)
 have hE1 : Ext w W1 := by rw [← hW1]; exact (Ext.alloc w _).trans (Ext.alloc _ _)
 have hI1 : I [] NoS W1 := hI _ _ _ _ h0 (fun _ h => h.elim) (hE1.mono (fun _ _ h => h.elim))
 have hl2 : two w.heap.size (w.heap.size + 1) := .inr rfl
 have hl2' : span w.heap.size (2 + own) (w.heap.size + 1) := by unfold span; omega
 refine ⟨w.heap.size + 1, [{ target := .collected w.heap.size, args := #[] }], W1, { target := .fn (.func g) cap, args := #[.func (.yield (w.heap.size + 1)) #[] #[]] }, W1, g,
  #[.func (.yield (w.heap.size + 1)) #[] #[]] ++ cap, W1, ?_, ?_, ?_, ?_, fw_depth, ?_⟩
 ·rw [← hW1, ← hrec]; exact run_enterLoop_outer _ _ _ _ _
 ·simp only [resolve, act_eval, hf]
  simp [Deferred.ofValue, ev]
 ·intro f' hf'; trivial
 ·simp only [invoke]; exact run_callFunc hc
 ·-- the iterator's contract
  have hsp : ∀ {n : Nat} b, b < n → span W1.heap.size own b → span w.heap.size (2 + own) b := fun b _ h => by unfold span at *; omega
  have hCl : ∀ b, two w.heap.size b → ¬ C b := fun b hb hcb => by have := hCn b hcb; rcases hb with rfl | rfl <;> omega
  refine calls_round (CallsIn.mono (hit (w.heap.size + 1)
   (fun pre U B => (I pre U B ∧ ∀ b, U b → w.heap.size + 2 + own ≤ b ∧ b < B.heap.size) ∧ w.heap.size + 2 ≤ B.heap.size ∧ B.heap[w.heap.size + 1]? = some (.loop (rec .ready Option.none)) ∧ B.heap[w.heap.size]? = some (.deferred (some [])))
   (fun pre B => ∃ c, Ix c pre B ∧ w.heap.size + 2 ≤ B.heap.size ∧ B.heap[w.heap.size + 1]? = some (.loop (rec .done (some c))) ∧ B.heap[w.heap.size]? = some (.deferred (some [])))
   W1 (hW0.trans hE1) (by omega) ?_ ?_ ?_ ⟨⟨hI1, fun _ h => h.elim⟩, by omega, hL1, hK1⟩) ?_)
  ·rintro pre U A B ⟨⟨hi, hu⟩, hs, hl, hk⟩ hAB
   exact ⟨⟨hI _ _ _ _ hi (fun b hb => (hu b hb).1) (hAB.mono hsp), fun b hb => ⟨(hu b hb).1, Nat.lt_of_lt_of_le (hu b hb).2 hAB.size⟩⟩, Nat.le_trans hs hAB.size, (hAB.block _ (by omega) (by unfold span; omega)).trans hl, (hAB.block _ (by omega) (by unfold span; omega)).trans hk⟩
  ·rintro pre A B ⟨c, hi, hs, hl, hk⟩ hAB
   exact ⟨c, hIx _ _ _ _ hi (hAB.mono hsp), Nat.le_trans hs hAB.size, (hAB.block _ (by omega) (by unfold span; omega)).trans hl, (hAB.block _ (by omega) (by unfold span; omega)).trans hk⟩
  ·-- one round
   rintro pre U x A args hxs ⟨⟨hi, hu⟩, hs, hl, hk⟩ hsA _ hx
   have hy := run_yield (P := P) (args := args) hl (by rw [← hrec]; exact henc x U A args (by rw [← hsz1]; exact hx))
   unfold Yld callV
   dsimp only
   rw [show (#[] ++ args : Array Value) = args from by simp]
   rw [hy, ← hrec]
   dsimp only [recOf, opR]
   refine round_round (r := Option.none) (n := 0) (roundIn_of_wpIn (F := fw Option.none) (n := 0) trivial ?_)
   have hin : (fw Option.none).inRound (w.heap.size + 1) = fw (some (w.heap.size + 1)) := rfl
   rw [hin]
   have hfold : (ps.zip args).foldl (fun t (x : Tmp × Value) => t.setIfInBounds x.1 x.2) (act n σ ds).tmps = (act n (setPs σ (ps.zip args).toList) []).tmps := by
    rw [← Array.foldl_toList]
    exact foldl_setPs n ds _ σ
   have hst : ({ tmps := (ps.zip args).foldl (fun t (x : Tmp × Value) => t.setIfInBounds x.1 x.2) (act n σ ds).tmps, defers := [] } : Act) = act n (setPs σ (ps.zip args).toList) [] := by
    rw [hfold]; rfl
   have hD1 := (Array.getElem?_eq_some_iff.1 hl).1
   have hno : ∀ b, two w.heap.size b → ¬ (C b ∨ U b) := fun b hb h => by
    rcases h with h | h
    ·exact hCl b hb h
    ·have := (hu b h).1; rcases hb with rfl | rfl <;> omega
   have hr := hround (w.heap.size + 1) pre U x A args hxs (by omega) hi hu (by rw [← hsz1]; exact hx)
   unfold W at hr
   rw [← hst] at hr
   refine wpIn_mono hr ?_
   rintro e a A1 ⟨σ1, ds1, rfl, hq⟩
   cases e with
   | normal =>
    obtain ⟨rfl, hA1, hbody⟩ := hq
    have hlA1 : A1.heap[w.heap.size + 1]? = some (.loop (rec .ready Option.none)) := (hA1.block _ (by omega) (hno _ hl2)).trans hl
    have hkA1 : A1.heap[w.heap.size]? = some (.deferred (some [])) := (hA1.block _ (by omega) (hno _ (.inl rfl))).trans hk
    have hlt1 : w.heap.size + 1 < A1.heap.size := (Array.getElem?_eq_some_iff.1 hlA1).1
    refine ⟨_, run_beginRound hlA1 (by rw [← hrec]; rfl), ?_⟩
    have hb := hbody _ (keep_put (w := A1) (r := w.heap.size + 1) (o := .loop { rec .ready Option.none with state := .busy }) hl2)
    refine wpIn_mono hb ?_
    have hlA2 : (A1.putObj (w.heap.size + 1) (.loop { rec .ready Option.none with state := .busy })).heap[w.heap.size + 1]? = some (.loop { rec .ready Option.none with state := .busy }) := World.putObj_heap_same hlt1
    have hkA2 : (A1.putObj (w.heap.size + 1) (.loop { rec .ready Option.none with state := .busy })).heap[w.heap.size]? = some (.deferred (some [])) := (World.putObj_heap_other (by omega)).trans hkA1
    have fin : ∀ (jump : Option Code) (B : World), Keep (fun b => C b ∨ U b) (A1.putObj (w.heap.size + 1) (.loop { rec .ready Option.none with state := .busy })) B →
      (Instr.endRound (w.heap.size + 1) jump).run P B = .ok (.bool jump.isNone) (B.putObj (w.heap.size + 1) (.loop (rec (if jump.isNone then .ready else .done) jump))) ∧
      w.heap.size + 2 ≤ (B.putObj (w.heap.size + 1) (.loop (rec (if jump.isNone then .ready else .done) jump))).heap.size ∧
      (B.putObj (w.heap.size + 1) (.loop (rec (if jump.isNone then .ready else .done) jump))).heap[w.heap.size + 1]? = some (.loop (rec (if jump.isNone then .ready else .done) jump)) ∧
      (B.putObj (w.heap.size + 1) (.loop (rec (if jump.isNone then .ready else .done) jump))).heap[w.heap.size]? = some (.deferred (some [])) ∧
      KeepR n0 W1.heap.size (fun b => C b ∨ U b) A (B.putObj (w.heap.size + 1) (.loop (rec (if jump.isNone then .ready else .done) jump))) := by
     intro jump B hB
     have hlB := (hB.block _ (by simp; omega) (hno _ hl2)).trans hlA2
     have hkB := (hB.block _ (by simp; omega) (hno _ (.inl rfl))).trans hkA2
     have hltB : w.heap.size + 1 < B.heap.size := (Array.getElem?_eq_some_iff.1 hlB).1
     have hsB := hB.size
     simp only [size_put] at hsB
     refine ⟨?_, by simp; omega, World.putObj_heap_same hltB, (World.putObj_heap_other (by omega)).trans hkB, ?_⟩
     ·have := run_endRound (P := P) jump hlB
      rw [← hrec] at this ⊢
      exact this
     ·refine ⟨hB.os.trans hA1.os, hB.tape.trans hA1.tape, hB.output.trans hA1.output, ?_, fun b hb hor hn => ?_, Nat.le_trans hA1.drawn hB.drawn⟩
      ·have := hA1.size; simp; omega
      ·have h1 := hA1.size
       have hne : b ≠ w.heap.size + 1 := by omega
       exact (World.putObj_heap_other hne).trans ((hB.block b (by simp; omega) hn).trans ((World.putObj_heap_other hne).trans (hA1.block b hb hn)))
    rintro e a B ⟨σ2, ds2, rfl, hq⟩
    cases e with
    | normal =>
     obtain ⟨U', hi', hU', hB⟩ := hq
     obtain ⟨h1, h2, h3, h4, h5⟩ := fin Option.none B hB
     have hsA1 := hA1.size
     have hsB := hB.size
     simp only [size_put] at hsB
     have hU2 : ∀ b, U' b → U b ∨ (A.heap.size ≤ b ∧ b < B.heap.size) := fun b hb => by
      rcases hU' b hb with h | ⟨h, h'⟩
      ·exact .inl h
      ·simp only [size_put] at h; exact .inr ⟨by omega, h'⟩
     have hu' : ∀ b, U' b → w.heap.size + 2 + own ≤ b ∧ b < B.heap.size := fun b hb => by
      rcases hU2 b hb with h | ⟨h, h'⟩
      ·have := hu b h; omega
      ·omega
     exact ⟨_, _, h1, _, rfl, .inl ⟨rfl, U', ⟨⟨hI _ _ _ _ hi' (fun b hb => (hu' b hb).1) (keep_put hl2'), fun b hb => by rw [size_put]; exact hu' b hb⟩, h2, h3.trans (by rw [← hrec]; rfl), h4⟩, fun b hb => by rw [size_put]; exact hU2 b hb, h5⟩⟩
    | ret =>
     obtain ⟨hi', hB⟩ := hq
     obtain ⟨h1, h2, h3, h4, _⟩ := fin (some .ret) B hB
     exact ⟨_, _, h1, _, rfl, .inr ⟨rfl, _, hIx _ _ _ _ hi' (keep_put hl2'), h2, h3.trans (by rw [← hrec]; rfl), h4⟩⟩
    | exit id =>
     obtain ⟨hi', hB⟩ := hq
     obtain ⟨h1, h2, h3, h4, _⟩ := fin (some (.exit id)) B hB
     exact ⟨_, _, h1, _, rfl, .inr ⟨rfl, _, hIx _ _ _ _ hi' (keep_put hl2'), h2, h3.trans (by rw [← hrec]; rfl), h4⟩⟩
    | goto t =>
     obtain ⟨hi', hB⟩ := hq
     obtain ⟨h1, h2, h3, h4, _⟩ := fin (some (.goto t)) B hB
     exact ⟨_, _, h1, _, rfl, .inr ⟨rfl, _, hIx _ _ _ _ hi' (keep_put hl2'), h2, h3.trans (by rw [← hrec]; rfl), h4⟩⟩
    | panic c => exact hq.elim
    | outgrown => exact hq.elim
   | ret => exact hq.elim
   | exit id => exact hq.elim
   | goto t => exact hq.elim
   | panic c => exact hq.elim
   | outgrown => exact hq.elim
  ·rintro e B ⟨v, rfl, h⟩
   rcases h with ⟨xs, U, hfull, ⟨hi, hu⟩, hs, hl, hk⟩ | ⟨pre, x, hxs, c, hi, hs, hl, hk⟩
   ·have hend := run_endLoop (P := P) hl (by rw [← hrec]; simp [recOf])
    have hp : (rec LoopState.ready Option.none).pending = Option.none := by rw [← hrec]; rfl
    rw [hp] at hend
    refine ⟨Option.none, _, hend, ?_⟩
    exact ⟨σ, _, rfl, hdone xs U _ hfull (by simp; omega) (fun b hb => by rw [size_put]; exact hu b hb) (hI _ _ _ _ hi (fun b hb => (hu b hb).1) (keep_put hl2')) ((World.putObj_heap_other (by omega)).trans hk)⟩
   ·have hend := run_endLoop (P := P) hl (by rw [← hrec]; simp [recOf])
    have hp : (rec LoopState.done (some c)).pending = some c := by rw [← hrec]; rfl
    rw [hp] at hend
    refine ⟨some c, _, hend, ?_⟩
    exact hstop c pre x _ (by simp; omega) hxs (hIx _ _ _ _ hi (keep_put hl2')) ((World.putObj_heap_other (by omega)).trans hk)
def NamesAt (w : World) (v : Value) (ns : List Nm) : Prop := ∃ vals, Row w v vals ∧ vals.length = ns.length ∧ ∀ i (h : i < vals.length) (h' : i < ns.length), Row w vals[i] (ns[i].map vs)
theorem cmpR_neg : ∀ a b : Nm, cmpR b a = - cmpR a b
 | [], [] => rfl
 | [], _ :: _ => rfl
 | _ :: _, [] => rfl
 | a :: l, b :: m => by
  simp only [cmpR]
  rw [cmpL_neg a b]
  by_cases h : cmpL a b = 0
  ·simp [h, cmpR_neg l m]
  ·have : ¬ -cmpL a b = 0 := by omega
   simp [h, this]
theorem cmpR_zero : ∀ {a b : Nm}, cmpR a b = 0 → a = b
 | [], [], _ => rfl
 | [], _ :: _, h => by cases h
 | _ :: _, [], h => by cases h
 | a :: l, b :: m, h => by
  simp only [cmpR] at h
  split at h
  ·rename_i h'; rw [cmpL_zero h', cmpR_zero h]
  ·rename_i h'; exact absurd h h'
theorem cmpR_trans : ∀ {a b c : Nm}, cmpR a b < 0 → cmpR b c < 0 → cmpR a c < 0
 | [], [], _, h, _ => by simp [cmpR] at h
 | [], _ :: _, [], _, h => by simp [cmpR] at h
 | [], _ :: _, _ :: _, _, _ => by simp [cmpR]
 | _ :: _, [], _, h, _ => by simp [cmpR] at h
 | _ :: _, _ :: _, [], _, h => by simp [cmpR] at h
 | a :: l, b :: m, c :: n, h1, h2 => by
  simp only [cmpR] at *
  by_cases e1 : cmpL a b = 0
  ·rw [if_pos e1] at h1
   have := cmpL_zero e1
   subst this
   by_cases e2 : cmpL a c = 0
   ·rw [if_pos e2] at h2 ⊢; exact cmpR_trans h1 h2
   ·rw [if_neg e2] at h2 ⊢; exact h2
  ·rw [if_neg e1] at h1
   have h2' : cmpL b c ≤ 0 := by
    by_cases e2 : cmpL b c = 0
    ·omega
    ·rw [if_neg e2] at h2; omega
   have := cmpL_lt_trans h1 h2'
   rw [if_neg (by omega)]; exact this
theorem cmpN_neg (a b : Nm) : cmpN b a = - cmpN a b := cmpR_neg _ _
theorem cmpN_zero {a b : Nm} (h : cmpN a b = 0) : a = b := by
 have := cmpR_zero h
 simpa using congrArg List.reverse this
theorem cmpN_trans {a b c : Nm} (h1 : cmpN a b < 0) (h2 : cmpN b c < 0) : cmpN a c < 0 := cmpR_trans h1 h2
theorem NamesAt.ext {w x : World} {v : Value} {L : List Nm} (h : NamesAt w v L) (hE : Ext w x) : NamesAt x v L := by
 obtain ⟨vals, h1, h2, h3⟩ := h
 exact ⟨vals, h1.ext hE, h2, fun i a b => (h3 i a b).ext hE⟩
theorem Or_ok (w : World) (a : Value) (l : List Int) (ha : Row w a (l.map vi)) (hl : l.length ≤ 1000000000000) : Fn Tryz.prog 110 #[a] w (fun v w' => v = vi (orI l) ∧ w' = w) := by
 obtain ⟨a, ca, rfl, hca, hla⟩ := ha
 simp only [List.length_map] at *
 refine enter Tryz.func110 Tryz.ntmps110 rfl rfl ?_
 repeat (first | refine c_r ?_ | refine rg0 ?_)
 refine W_loop (fun m σ ds v => ds = [] ∧ v = w ∧ ∃ i : Nat, i + m = l.length ∧ σ 8 = vi i ∧ σ 7 = vi l.length ∧ σ 6 = .slice a l.length ca ∧ σ 3 = vi 0 ∧ orI l = orI (l.drop i)) l.length ?_ ?_
 ·refine ⟨rfl, rfl, 0, by omega, ?_, ?_, ?_, ?_, by simp⟩
  ·simp only [↓reduceIte, go_sem, Nat.reduceLT, Nat.reduceEqDiff, Nat.reduceSub]; rfl
  ·simp only [↓reduceIte, go_sem, Nat.reduceLT, Nat.reduceEqDiff, Nat.reduceSub]
  ·simp only [↓reduceIte, go_sem, Nat.reduceLT, Nat.reduceEqDiff, Nat.reduceSub]
  ·simp only [↓reduceIte, go_sem, Nat.reduceLT, Nat.reduceEqDiff, Nat.reduceSub]
 ·rintro m σ ds v ⟨rfl, hv, i, him, h8, h7, h6, h3, hinv⟩
  rw [hv]
  repeat refine c_r ?_
  refine rg2 h8 h7 ?_
  repeat refine c_r ?_
  refine wc0 ?_ ?_
  ·intro hlt
   simp only [decide_eq_true_eq] at hlt
   have hsa : a.isSome = true := some_of_cellO (hla i (by omega))
   have hd := orI_drop (l := l) (i := i) (by omega)
   repeat refine c_r ?_
   refine rq ?_; intro gd K hgd hK; simp (disch := first | omega | assumption | rfl) only [↓reduceIte, go_sem, Nat.reduceLT, Nat.reduceEqDiff, Nat.reduceSub, h8, h6, hla, List.getElem_map]; refine hK _ _ ?_; clear hK hgd; clear K gd
   repeat refine c_r ?_
   refine rg1 h3 ?_
   repeat refine c_r ?_
   refine wc0 ?_ ?_
   ·intro h
    simp only [Bool.not_eq_true', decide_eq_false_iff_not] at h
    repeat (first | refine c_r ?_ | refine rg0 ?_)
    refine rt0 Tryz.ntmps110 ?_
    exact ⟨by rw [hinv, hd, if_neg h], rfl⟩
   ·intro h
    simp only [Bool.not_eq_false', decide_eq_true_eq] at h
    repeat refine c_r ?_
    refine rg1 h8 ?_
    repeat refine c_r ?_
    exact ⟨m - 1, by omega, rfl, rfl, i + 1, by omega, by simp only [↓reduceIte, go_sem, Nat.reduceLT, Nat.reduceEqDiff, Nat.reduceSub]; push_cast; rfl, (vq1 h7), (vq1 h6), (vq1 h3), by rw [hinv, hd, if_pos h]⟩
  ·intro hge
   simp only [decide_eq_false_iff_not] at hge
   repeat (first | refine c_r ?_ | (refine W_reg (by rfl) ?_; intro gd K hgd hK; simp (disch := first | omega | assumption | rfl) only [↓reduceIte, go_sem, Nat.reduceLT, Nat.reduceEqDiff, Nat.reduceSub, h3]; refine hK _ _ ?_; clear hK hgd; clear K gd))
   refine rt0 Tryz.ntmps110 ?_
   refine ⟨?_, rfl⟩
   rw [hinv, List.drop_of_length_le (by omega)]; rfl
theorem cmpR_nilI (a b : Nm) (h : a = [] ∨ b = []) : cmpR a b = cmpI a.length b.length := by
 rw [cmpR_nil a b h]; unfold sgn cmpI
 by_cases h1 : (a.length : Int) < b.length
 ·rw [if_pos (by omega), if_pos h1]
 ·by_cases h2 : (b.length : Int) < a.length
  ·rw [if_neg (by omega), if_pos (by omega), if_neg h1, if_pos h2]
  ·rw [if_neg (by omega), if_neg (by omega), if_neg h1, if_neg h2]
theorem NCompare_ok (w : World) (a b : Value) (xs ys : Nm) (ha : Row w a (xs.map vs)) (hb : Row w b (ys.map vs)) (hx : LB xs) (hy : LB ys) (hxl : xs.length ≤ 9000000000000000000) (hyl : ys.length ≤ 9000000000000000000) :
  Fn Tryz.prog 54 #[a, b] w (fun v w' => v = vi (cmpN (foldN xs) (foldN ys)) ∧ Ext w w') := by
 obtain ⟨a, ca, rfl, hca, hla⟩ := ha
 obtain ⟨b, cb, rfl, hcb, hlb⟩ := hb
 simp only [List.length_map] at *
 obtain ⟨k, hk⟩ : ∃ k, min xs.length ys.length = k := ⟨_, rfl⟩
 have hmin : min (xs.length : Int) (ys.length : Int) = (k : Int) := by omega
 refine enter Tryz.func54 Tryz.ntmps54 rfl rfl ?_
 repeat refine c_r ?_
 refine rg0 ?_
 repeat refine c_r ?_
 refine rq ?_; intro gd K hgd hK
 try simp (disch := first | omega | assumption | rfl) only [↓reduceIte, go_sem, Nat.reduceLT, Nat.reduceEqDiff, Nat.reduceSub]
 refine op_min (k := .i64) (a := xs.length) (b := ys.length) (vq0) (vq0) ?_
 rw [hmin]
 try simp (disch := first | omega | assumption | rfl) only [↓reduceIte, go_sem, Nat.reduceLT, Nat.reduceEqDiff, Nat.reduceSub]
 refine hK _ _ ?_; clear hK hgd; clear K; try clear gd
 repeat refine c_r ?_
 refine W_loop (fun m σ ds v => ds = [] ∧ ∃ i : Nat, i + m = k ∧ σ 12 = vi i ∧ σ 11 = vi k ∧ σ 0 = .slice a xs.length ca ∧ σ 1 = .slice b ys.length cb ∧ Ext w v ∧ cmpN (foldN xs) (foldN ys) = cmpR ((foldN xs).reverse.drop i) ((foldN ys).reverse.drop i)) k ?_ ?_
 ·refine ⟨rfl, 0, by omega, ?_, ?_, ?_, ?_, Keep.refl _ _, by simp [cmpN]⟩
  ·simp only [↓reduceIte, go_sem, Nat.reduceLT, Nat.reduceEqDiff, Nat.reduceSub]; rfl
  ·simp only [↓reduceIte, go_sem, Nat.reduceLT, Nat.reduceEqDiff, Nat.reduceSub]
  ·simp only [↓reduceIte, go_sem, Nat.reduceLT, Nat.reduceEqDiff, Nat.reduceSub]
  ·simp only [↓reduceIte, go_sem, Nat.reduceLT, Nat.reduceEqDiff, Nat.reduceSub]
 ·rintro m σ ds v ⟨rfl, i, him, h12, h11, h0, h1, hE, hinv⟩
  repeat refine c_r ?_
  refine rq ?_; intro gd K hgd hK; simp (disch := first | omega | assumption | rfl) only [↓reduceIte, go_sem, Nat.reduceLT, Nat.reduceEqDiff, Nat.reduceSub, h12, h11]; refine hK _ _ ?_; clear hK hgd; clear K gd
  repeat refine c_r ?_
  refine wc0 ?_ ?_
  ·intro hlt
   simp only [decide_eq_true_eq] at hlt
   have hsa : a.isSome = true := some_of_cellO (hla (xs.length - 1 - i) (by omega))
   have hsb : b.isSome = true := some_of_cellO (hlb (ys.length - 1 - i) (by omega))
   have e1 : ((xs.length : Int) - 1 - i).toNat = xs.length - 1 - i := by omega
   have e2 : ((ys.length : Int) - 1 - i).toNat = ys.length - 1 - i := by omega
   repeat refine c_r ?_
   refine rg1 h12 ?_
   repeat refine c_r ?_
   refine W_drw (fun _ => false) [(0, true), (1, true), (2, true), (3, true), (4, true), (5, true), (6, true), (7, true), (8, true), (9, true), (10, true), (11, true), (12, true), (13, true), (14, true), (15, true), (16, false), (17, true)] NoS mixed (by kernel_rfl) ?_; intro gd K x hgd hx hxe hK; clear hxe
   have hla' := fun j h => cellO_ext (hE.trans ‹Keep NoS v x›) (hla j h)
   have hlb' := fun j h => cellO_ext (hE.trans ‹Keep NoS v x›) (hlb j h)
   simp (disch := first | omega | assumption | rfl) only [↓reduceIte, go_sem, Nat.reduceLT, Nat.reduceEqDiff, Nat.reduceSub, h12, h0, h1, e1, e2, hla', hlb', List.getElem_map]
   refine Fn.mono (LCompare_ok _ _ _ (LB.get ‹LB xs› _) (LB.get ‹LB ys› _)) ?_
   rintro _ x1 ⟨rfl, hx1⟩
   refine ⟨.inr hx1, ?_⟩
   simp (disch := first | omega | assumption | rfl) only [↓reduceIte, go_sem, Nat.reduceLT, Nat.reduceEqDiff, Nat.reduceSub]
   refine hK _ _ ?_; clear hK hgd; clear K; try clear gd
   have hst := cmpR_step (a := (foldN xs).reverse) (b := (foldN ys).reverse) (i := i) (by simp [foldN_len]; omega) (by simp [foldN_len]; omega)
   have g1 : (foldN xs).reverse[i]'(by simp [foldN_len]; omega) = foldL (xs[xs.length - 1 - i]'(by omega)) := by
    rw [List.getElem_reverse]; simp [foldN]
   have g2 : (foldN ys).reverse[i]'(by simp [foldN_len]; omega) = foldL (ys[ys.length - 1 - i]'(by omega)) := by
    rw [List.getElem_reverse]; simp [foldN]
   rw [g1, g2] at hst
   repeat refine c_r ?_
   refine rg0 ?_
   repeat refine c_r ?_
   refine wc0 ?_ ?_
   ·intro hne
    simp only [Bool.not_eq_true', decide_eq_false_iff_not] at hne
    repeat (first | refine c_r ?_ | refine rg0 ?_)
    refine rt0 Tryz.ntmps54 ?_
    refine ⟨by rw [hinv, hst, if_neg hne], (hE.trans ‹Keep NoS v x›).trans hx1⟩
   ·intro heq
    simp only [Bool.not_eq_false', decide_eq_true_eq] at heq
    repeat refine c_r ?_
    refine rg1 h12 ?_
    repeat refine c_r ?_
    exact ⟨m - 1, by omega, rfl, i + 1, by omega, by simp only [↓reduceIte, go_sem, Nat.reduceLT, Nat.reduceEqDiff, Nat.reduceSub]; push_cast; rfl, by simp only [↓reduceIte, go_sem, Nat.reduceLT, Nat.reduceEqDiff, Nat.reduceSub, h11], (vq1 h0), (vq1 h1), (hE.trans ‹Keep NoS v x›).trans hx1, by rw [hinv, hst, if_pos heq]⟩
  ·intro hge
   simp only [decide_eq_false_iff_not] at hge
   repeat refine c_r ?_
   refine rq ?_; intro gd K hgd hK
   try simp (disch := first | omega | assumption | rfl) only [↓reduceIte, go_sem, Nat.reduceLT, Nat.reduceEqDiff, Nat.reduceSub, h0, h1]
   refine Fn.mono (N_int.Compare_ok _ _ _) ?_
   rintro _ w2 ⟨rfl, rfl⟩
   try simp (disch := first | omega | assumption | rfl) only [↓reduceIte, go_sem, Nat.reduceLT, Nat.reduceEqDiff, Nat.reduceSub]
   refine hK _ _ ?_; clear hK hgd; clear K; try clear gd
   repeat refine c_r ?_
   refine rt0 Tryz.ntmps54 ?_
   refine ⟨?_, hE⟩
   have l1 : ((foldN xs).reverse.drop i).length = xs.length - i := by simp [foldN_len]
   have l2 : ((foldN ys).reverse.drop i).length = ys.length - i := by simp [foldN_len]
   rw [hinv, cmpR_nilI _ _ (by
    rcases Nat.lt_or_ge i xs.length with h | h
    ·exact .inr (List.length_eq_zero_iff.1 (by omega))
    ·exact .inl (List.length_eq_zero_iff.1 (by omega))), l1, l2]
   unfold cmpI
   by_cases h1' : (xs.length : Int) < ys.length
   ·rw [if_pos h1', if_pos (by omega)]
   ·by_cases h2' : (ys.length : Int) < xs.length
    ·rw [if_neg h1', if_pos h2', if_neg (by omega), if_pos (by omega)]
    ·rw [if_neg h1', if_neg h2', if_neg (by omega), if_neg (by omega)]
end Go.Proofs.YtopbbjdembnfdaaGreat
namespace Go.Proofs.YtopbbjdembnfdaaGreat.C_cn
open Go Go.Proofs.YtopbbjdembnfdaaGreat
set_option maxRecDepth 10000
def RowR {α : Type} (Rl : World → α → Value → Prop) (w : World) (v : Value) (xs : List α) : Prop := ∃ us, Row w v us ∧ us.length = xs.length ∧ ∀ i (h : i < us.length) (h' : i < xs.length), Rl w xs[i] us[i]
theorem CompareFunc_ok {α : Type} {Rl : World → α → Value → Prop} (hR : ∀ w x a v, Ext w x → Rl w a v → Rl x a v) {cf : α → α → Int} {U : α → Prop} {g : FuncId} (hcal : callable Tryz.prog g = true) {w : World}
  (hcall : ∀ A x y u v, Ext w A → U x → U y → Rl A x u → Rl A y v → Fn Tryz.prog g #[u, v] A (fun r B => r = vi (cf x y) ∧ Ext A B)) {a b : Value} {xs ys : List α} (ha : RowR Rl w a xs) (hb : RowR Rl w b ys) (hUx : ∀ x ∈ xs, U x) (hUy : ∀ y ∈ ys, U y) (hxl : xs.length ≤ 1000000000000000) (hyl : ys.length ≤ 1000000000000000) :
  Fn Tryz.prog 218 #[a, b, .func (.func g) #[] #[]] w (fun v w' => v = vi (lexC cf xs ys) ∧ Ext w w') := by
 obtain ⟨us, ⟨a, ca, rfl, hca, hla⟩, hul, hu⟩ := ha
 obtain ⟨vs', ⟨b, cb, rfl, hcb, hlb⟩, hvl, hv⟩ := hb
 refine enter Tryz.func218 Tryz.ntmps218 rfl rfl ?_
 repeat refine c_r ?_
 refine rg0 ?_
 repeat refine c_r ?_
 refine rg0 ?_
 repeat refine c_r ?_
 refine W_loop (fun m σ ds v => ds = [] ∧ ∃ i : Nat, i + m = us.length ∧ i ≤ vs'.length ∧ σ 13 = vi i ∧ σ 12 = vi us.length ∧ σ 11 = .slice a us.length ca ∧ σ 0 = .slice a us.length ca ∧ σ 1 = .slice b vs'.length cb ∧ σ 2 = .func (.func g) #[] #[] ∧ Ext w v ∧ lexC cf xs ys = lexC cf (xs.drop i) (ys.drop i)) us.length ?_ ?_
 ·refine ⟨rfl, 0, by omega, by omega, ?_, ?_, ?_, ?_, ?_, ?_, Keep.refl _ _, by simp⟩
  ·simp only [↓reduceIte, go_sem, Nat.reduceLT, Nat.reduceEqDiff, Nat.reduceSub]; rfl
  ·simp only [↓reduceIte, go_sem, Nat.reduceLT, Nat.reduceEqDiff, Nat.reduceSub]
  ·simp only [↓reduceIte, go_sem, Nat.reduceLT, Nat.reduceEqDiff, Nat.reduceSub]
  ·simp only [↓reduceIte, go_sem, Nat.reduceLT, Nat.reduceEqDiff, Nat.reduceSub]
  ·simp only [↓reduceIte, go_sem, Nat.reduceLT, Nat.reduceEqDiff, Nat.reduceSub]
  ·simp only [↓reduceIte, go_sem, Nat.reduceLT, Nat.reduceEqDiff, Nat.reduceSub]
 ·rintro m σ ds v ⟨rfl, i, him, hiv, h13, h12, h11, h0, h1, h2, hE, hinv⟩
  repeat refine c_r ?_
  refine rg2 h13 h12 ?_
  repeat refine c_r ?_
  refine wc0 ?_ ?_
  ·intro hlt
   simp only [decide_eq_true_eq] at hlt
   have hsa : a.isSome = true := some_of_cellO (hla i (by omega))
   have hla' := fun j h => cellO_ext hE (hla j h)
   have hlb' := fun j h => cellO_ext hE (hlb j h)
   repeat refine c_r ?_
   refine rq ?_; intro gd K hgd hK; simp (disch := first | omega | assumption | rfl) only [↓reduceIte, go_sem, Nat.reduceLT, Nat.reduceEqDiff, Nat.reduceSub, h13, h11, hla']; refine hK _ _ ?_; clear hK hgd; clear K gd
   repeat refine c_r ?_
   refine rg1 h1 ?_
   repeat refine c_r ?_
   refine wc0 ?_ ?_
   ·intro hge
    simp only [decide_eq_true_eq] at hge
    repeat (first | refine c_r ?_ | refine rg0 ?_)
    refine rt0 Tryz.ntmps218 ?_
    refine ⟨?_, hE⟩
    have e : ys.drop i = [] := List.drop_of_length_le (by omega)
    rw [hinv, lexC_nil (.inr e), e]
    have l1 : (xs.drop i).length = xs.length - i := by simp
    unfold cmpI
    rw [l1, List.length_nil, if_neg (by omega), if_pos (by omega)]
   ·intro hlt2
    simp only [decide_eq_false_iff_not] at hlt2
    have hsb : b.isSome = true := some_of_cellO (hlb i (by omega))
    have hst := lexC_drop (cf := cf) (a := xs) (b := ys) (i := i) (by omega) (by omega)
    repeat refine c_r ?_
    refine rg2 h1 hlb' ?_
    repeat refine c_r ?_
    refine rq ?_; intro gd K hgd hK
    try simp (disch := first | omega | assumption | rfl) only [↓reduceIte, go_sem, Nat.reduceLT, Nat.reduceEqDiff, Nat.reduceSub, h2]
    refine call_of hcal (Fn.mono (hcall v xs[i] ys[i] _ _ hE (hUx _ (List.getElem_mem _)) (hUy _ (List.getElem_mem _)) (hR _ _ _ _ hE (hu i (by omega) (by omega))) (hR _ _ _ _ hE (hv i (by omega) (by omega)))) ?_)
    rintro _ w1 ⟨rfl, hE1⟩
    try simp (disch := first | omega | assumption | rfl) only [↓reduceIte, go_sem, Nat.reduceLT, Nat.reduceEqDiff, Nat.reduceSub]
    refine hK _ _ ?_; clear hK hgd; clear K; try clear gd
    repeat refine c_r ?_
    refine rg0 ?_
    repeat refine c_r ?_
    refine wc0 ?_ ?_
    ·intro hne
     simp only [Bool.not_eq_true', decide_eq_false_iff_not] at hne
     repeat (first | refine c_r ?_ | refine rg0 ?_)
     refine rt0 Tryz.ntmps218 ?_
     exact ⟨by rw [hinv, hst, if_neg hne], hE.trans hE1⟩
    ·intro heq
     simp only [Bool.not_eq_false', decide_eq_true_eq] at heq
     repeat refine c_r ?_
     refine rg1 h13 ?_
     repeat refine c_r ?_
     exact ⟨m - 1, by omega, rfl, i + 1, by omega, by omega, by simp only [↓reduceIte, go_sem, Nat.reduceLT, Nat.reduceEqDiff, Nat.reduceSub]; push_cast; rfl, (vq1 h12), by simp only [↓reduceIte, go_sem, Nat.reduceLT, Nat.reduceEqDiff, Nat.reduceSub, h11], (vq1 h0), (vq1 h1), (vq1 h2), hE.trans hE1, by rw [hinv, hst, if_pos heq]⟩
  ·intro hge
   simp only [decide_eq_false_iff_not] at hge
   have e : xs.drop i = [] := List.drop_of_length_le (by omega)
   have l2 : (ys.drop i).length = ys.length - i := by simp
   have hval : lexC cf xs ys = cmpI 0 (ys.length - i : Nat) := by rw [hinv, lexC_nil (.inl e), e, l2]; rfl
   repeat refine c_r ?_
   refine rg2 h0 h1 ?_
   repeat refine c_r ?_
   refine wc0 ?_ ?_
   ·intro h
    simp only [decide_eq_true_eq] at h
    repeat (first | refine c_r ?_ | refine rg0 ?_)
    refine rt0 Tryz.ntmps218 ?_
    exact ⟨by rw [hval, cmpI, if_pos (by omega)], hE⟩
   ·intro h
    simp only [decide_eq_false_iff_not] at h
    repeat (first | refine c_r ?_ | refine rg0 ?_)
    refine rt0 Tryz.ntmps218 ?_
    exact ⟨by rw [hval, cmpI, if_neg (by omega), if_neg (by omega)], hE⟩
end Go.Proofs.YtopbbjdembnfdaaGreat.C_cn
namespace Go.Proofs.YtopbbjdembnfdaaGreat.C_cu
open Go Go.Proofs.YtopbbjdembnfdaaGreat
set_option maxRecDepth 10000
def RowR {α : Type} (Rl : World → α → Value → Prop) (w : World) (v : Value) (xs : List α) : Prop := ∃ us, Row w v us ∧ us.length = xs.length ∧ ∀ i (h : i < us.length) (h' : i < xs.length), Rl w xs[i] us[i]
theorem CompareFunc_ok {α : Type} {Rl : World → α → Value → Prop} (hR : ∀ w x a v, Ext w x → Rl w a v → Rl x a v) {cf : α → α → Int} {U : α → Prop} {g : FuncId} (hcal : callable Tryz.prog g = true) {w : World}
  (hcall : ∀ A x y u v, Ext w A → U x → U y → Rl A x u → Rl A y v → Fn Tryz.prog g #[u, v] A (fun r B => r = vi (cf x y) ∧ Ext A B)) {a b : Value} {xs ys : List α} (ha : RowR Rl w a xs) (hb : RowR Rl w b ys) (hUx : ∀ x ∈ xs, U x) (hUy : ∀ y ∈ ys, U y) (hxl : xs.length ≤ 1000000000000000) (hyl : ys.length ≤ 1000000000000000) :
  Fn Tryz.prog 219 #[a, b, .func (.func g) #[] #[]] w (fun v w' => v = vi (lexC cf xs ys) ∧ Ext w w') := by
 obtain ⟨us, ⟨a, ca, rfl, hca, hla⟩, hul, hu⟩ := ha
 obtain ⟨vs', ⟨b, cb, rfl, hcb, hlb⟩, hvl, hv⟩ := hb
 refine enter Tryz.func219 Tryz.ntmps219 rfl rfl ?_
 repeat refine c_r ?_
 refine rg0 ?_
 repeat refine c_r ?_
 refine rg0 ?_
 repeat refine c_r ?_
 refine W_loop (fun m σ ds v => ds = [] ∧ ∃ i : Nat, i + m = us.length ∧ i ≤ vs'.length ∧ σ 13 = vi i ∧ σ 12 = vi us.length ∧ σ 11 = .slice a us.length ca ∧ σ 0 = .slice a us.length ca ∧ σ 1 = .slice b vs'.length cb ∧ σ 2 = .func (.func g) #[] #[] ∧ Ext w v ∧ lexC cf xs ys = lexC cf (xs.drop i) (ys.drop i)) us.length ?_ ?_
 ·refine ⟨rfl, 0, by omega, by omega, ?_, ?_, ?_, ?_, ?_, ?_, Keep.refl _ _, by simp⟩
  ·simp only [↓reduceIte, go_sem, Nat.reduceLT, Nat.reduceEqDiff, Nat.reduceSub]; rfl
  ·simp only [↓reduceIte, go_sem, Nat.reduceLT, Nat.reduceEqDiff, Nat.reduceSub]
  ·simp only [↓reduceIte, go_sem, Nat.reduceLT, Nat.reduceEqDiff, Nat.reduceSub]
  ·simp only [↓reduceIte, go_sem, Nat.reduceLT, Nat.reduceEqDiff, Nat.reduceSub]
  ·simp only [↓reduceIte, go_sem, Nat.reduceLT, Nat.reduceEqDiff, Nat.reduceSub]
  ·simp only [↓reduceIte, go_sem, Nat.reduceLT, Nat.reduceEqDiff, Nat.reduceSub]
 ·rintro m σ ds v ⟨rfl, i, him, hiv, h13, h12, h11, h0, h1, h2, hE, hinv⟩
  repeat refine c_r ?_
  refine rg2 h13 h12 ?_
  repeat refine c_r ?_
  refine wc0 ?_ ?_
  ·intro hlt
   simp only [decide_eq_true_eq] at hlt
   have hsa : a.isSome = true := some_of_cellO (hla i (by omega))
   have hla' := fun j h => cellO_ext hE (hla j h)
   have hlb' := fun j h => cellO_ext hE (hlb j h)
   repeat refine c_r ?_
   refine rq ?_; intro gd K hgd hK; simp (disch := first | omega | assumption | rfl) only [↓reduceIte, go_sem, Nat.reduceLT, Nat.reduceEqDiff, Nat.reduceSub, h13, h11, hla']; refine hK _ _ ?_; clear hK hgd; clear K gd
   repeat refine c_r ?_
   refine rg1 h1 ?_
   repeat refine c_r ?_
   refine wc0 ?_ ?_
   ·intro hge
    simp only [decide_eq_true_eq] at hge
    repeat (first | refine c_r ?_ | refine rg0 ?_)
    refine rt0 Tryz.ntmps219 ?_
    refine ⟨?_, hE⟩
    have e : ys.drop i = [] := List.drop_of_length_le (by omega)
    rw [hinv, lexC_nil (.inr e), e]
    have l1 : (xs.drop i).length = xs.length - i := by simp
    unfold cmpI
    rw [l1, List.length_nil, if_neg (by omega), if_pos (by omega)]
   ·intro hlt2
    simp only [decide_eq_false_iff_not] at hlt2
    have hsb : b.isSome = true := some_of_cellO (hlb i (by omega))
    have hst := lexC_drop (cf := cf) (a := xs) (b := ys) (i := i) (by omega) (by omega)
    repeat refine c_r ?_
    refine rg2 h1 hlb' ?_
    repeat refine c_r ?_
    refine rq ?_; intro gd K hgd hK
    try simp (disch := first | omega | assumption | rfl) only [↓reduceIte, go_sem, Nat.reduceLT, Nat.reduceEqDiff, Nat.reduceSub, h2]
    refine call_of hcal (Fn.mono (hcall v xs[i] ys[i] _ _ hE (hUx _ (List.getElem_mem _)) (hUy _ (List.getElem_mem _)) (hR _ _ _ _ hE (hu i (by omega) (by omega))) (hR _ _ _ _ hE (hv i (by omega) (by omega)))) ?_)
    rintro _ w1 ⟨rfl, hE1⟩
    try simp (disch := first | omega | assumption | rfl) only [↓reduceIte, go_sem, Nat.reduceLT, Nat.reduceEqDiff, Nat.reduceSub]
    refine hK _ _ ?_; clear hK hgd; clear K; try clear gd
    repeat refine c_r ?_
    refine rg0 ?_
    repeat refine c_r ?_
    refine wc0 ?_ ?_
    ·intro hne
     simp only [Bool.not_eq_true', decide_eq_false_iff_not] at hne
     repeat (first | refine c_r ?_ | refine rg0 ?_)
     refine rt0 Tryz.ntmps219 ?_
     exact ⟨by rw [hinv, hst, if_neg hne], hE.trans hE1⟩
    ·intro heq
     simp only [Bool.not_eq_false', decide_eq_true_eq] at heq
     repeat refine c_r ?_
     refine rg1 h13 ?_
     repeat refine c_r ?_
     exact ⟨m - 1, by omega, rfl, i + 1, by omega, by omega, by simp only [↓reduceIte, go_sem, Nat.reduceLT, Nat.reduceEqDiff, Nat.reduceSub]; push_cast; rfl, (vq1 h12), by simp only [↓reduceIte, go_sem, Nat.reduceLT, Nat.reduceEqDiff, Nat.reduceSub, h11], (vq1 h0), (vq1 h1), (vq1 h2), hE.trans hE1, by rw [hinv, hst, if_pos heq]⟩
  ·intro hge
   simp only [decide_eq_false_iff_not] at hge
   have e : xs.drop i = [] := List.drop_of_length_le (by omega)
   have l2 : (ys.drop i).length = ys.length - i := by simp
   have hval : lexC cf xs ys = cmpI 0 (ys.length - i : Nat) := by rw [hinv, lexC_nil (.inl e), e, l2]; rfl
   repeat refine c_r ?_
   refine rg2 h0 h1 ?_
   repeat refine c_r ?_
   refine wc0 ?_ ?_
   ·intro h
    simp only [decide_eq_true_eq] at h
    repeat (first | refine c_r ?_ | refine rg0 ?_)
    refine rt0 Tryz.ntmps219 ?_
    exact ⟨by rw [hval, cmpI, if_pos (by omega)], hE⟩
   ·intro h
    simp only [decide_eq_false_iff_not] at h
    repeat (first | refine c_r ?_ | refine rg0 ?_)
    refine rt0 Tryz.ntmps219 ?_
    exact ⟨by rw [hval, cmpI, if_neg (by omega), if_neg (by omega)], hE⟩
end Go.Proofs.YtopbbjdembnfdaaGreat.C_cu
namespace Go.Proofs.YtopbbjdembnfdaaGreat.C_ct
open Go Go.Proofs.YtopbbjdembnfdaaGreat
set_option maxRecDepth 10000
def RowR {α : Type} (Rl : World → α → Value → Prop) (w : World) (v : Value) (xs : List α) : Prop := ∃ us, Row w v us ∧ us.length = xs.length ∧ ∀ i (h : i < us.length) (h' : i < xs.length), Rl w xs[i] us[i]
theorem CompareFunc_ok {α : Type} {Rl : World → α → Value → Prop} (hR : ∀ w x a v, Ext w x → Rl w a v → Rl x a v) {cf : α → α → Int} {U : α → Prop} {g : FuncId} (hcal : callable Tryz.prog g = true) {w : World}
  (hcall : ∀ A x y u v, Ext w A → U x → U y → Rl A x u → Rl A y v → Fn Tryz.prog g #[u, v] A (fun r B => r = vi (cf x y) ∧ Ext A B)) {a b : Value} {xs ys : List α} (ha : RowR Rl w a xs) (hb : RowR Rl w b ys) (hUx : ∀ x ∈ xs, U x) (hUy : ∀ y ∈ ys, U y) (hxl : xs.length ≤ 1000000000000000) (hyl : ys.length ≤ 1000000000000000) :
  Fn Tryz.prog 221 #[a, b, .func (.func g) #[] #[]] w (fun v w' => v = vi (lexC cf xs ys) ∧ Ext w w') := by
 obtain ⟨us, ⟨a, ca, rfl, hca, hla⟩, hul, hu⟩ := ha
 obtain ⟨vs', ⟨b, cb, rfl, hcb, hlb⟩, hvl, hv⟩ := hb
 refine enter Tryz.func221 Tryz.ntmps221 rfl rfl ?_
 repeat refine c_r ?_
 refine rg0 ?_
 repeat refine c_r ?_
 refine rg0 ?_
 repeat refine c_r ?_
 refine W_loop (fun m σ ds v => ds = [] ∧ ∃ i : Nat, i + m = us.length ∧ i ≤ vs'.length ∧ σ 13 = vi i ∧ σ 12 = vi us.length ∧ σ 11 = .slice a us.length ca ∧ σ 0 = .slice a us.length ca ∧ σ 1 = .slice b vs'.length cb ∧ σ 2 = .func (.func g) #[] #[] ∧ Ext w v ∧ lexC cf xs ys = lexC cf (xs.drop i) (ys.drop i)) us.length ?_ ?_
 ·refine ⟨rfl, 0, by omega, by omega, ?_, ?_, ?_, ?_, ?_, ?_, Keep.refl _ _, by simp⟩
  ·simp only [↓reduceIte, go_sem, Nat.reduceLT, Nat.reduceEqDiff, Nat.reduceSub]; rfl
  ·simp only [↓reduceIte, go_sem, Nat.reduceLT, Nat.reduceEqDiff, Nat.reduceSub]
  ·simp only [↓reduceIte, go_sem, Nat.reduceLT, Nat.reduceEqDiff, Nat.reduceSub]
  ·simp only [↓reduceIte, go_sem, Nat.reduceLT, Nat.reduceEqDiff, Nat.reduceSub]
  ·simp only [↓reduceIte, go_sem, Nat.reduceLT, Nat.reduceEqDiff, Nat.reduceSub]
  ·simp only [↓reduceIte, go_sem, Nat.reduceLT, Nat.reduceEqDiff, Nat.reduceSub]
 ·rintro m σ ds v ⟨rfl, i, him, hiv, h13, h12, h11, h0, h1, h2, hE, hinv⟩
  repeat refine c_r ?_
  refine rg2 h13 h12 ?_
  repeat refine c_r ?_
  refine wc0 ?_ ?_
  ·intro hlt
   simp only [decide_eq_true_eq] at hlt
   have hsa : a.isSome = true := some_of_cellO (hla i (by omega))
   have hla' := fun j h => cellO_ext hE (hla j h)
   have hlb' := fun j h => cellO_ext hE (hlb j h)
   repeat refine c_r ?_
   refine rq ?_; intro gd K hgd hK; simp (disch := first | omega | assumption | rfl) only [↓reduceIte, go_sem, Nat.reduceLT, Nat.reduceEqDiff, Nat.reduceSub, h13, h11, hla']; refine hK _ _ ?_; clear hK hgd; clear K gd
   repeat refine c_r ?_
   refine rg1 h1 ?_
   repeat refine c_r ?_
   refine wc0 ?_ ?_
   ·intro hge
    simp only [decide_eq_true_eq] at hge
    repeat (first | refine c_r ?_ | refine rg0 ?_)
    refine rt0 Tryz.ntmps221 ?_
    refine ⟨?_, hE⟩
    have e : ys.drop i = [] := List.drop_of_length_le (by omega)
    rw [hinv, lexC_nil (.inr e), e]
    have l1 : (xs.drop i).length = xs.length - i := by simp
    unfold cmpI
    rw [l1, List.length_nil, if_neg (by omega), if_pos (by omega)]
   ·intro hlt2
    simp only [decide_eq_false_iff_not] at hlt2
    have hsb : b.isSome = true := some_of_cellO (hlb i (by omega))
    have hst := lexC_drop (cf := cf) (a := xs) (b := ys) (i := i) (by omega) (by omega)
    repeat refine c_r ?_
    refine rg2 h1 hlb' ?_
    repeat refine c_r ?_
    refine rq ?_; intro gd K hgd hK
    try simp (disch := first | omega | assumption | rfl) only [↓reduceIte, go_sem, Nat.reduceLT, Nat.reduceEqDiff, Nat.reduceSub, h2]
    refine call_of hcal (Fn.mono (hcall v xs[i] ys[i] _ _ hE (hUx _ (List.getElem_mem _)) (hUy _ (List.getElem_mem _)) (hR _ _ _ _ hE (hu i (by omega) (by omega))) (hR _ _ _ _ hE (hv i (by omega) (by omega)))) ?_)
    rintro _ w1 ⟨rfl, hE1⟩
    try simp (disch := first | omega | assumption | rfl) only [↓reduceIte, go_sem, Nat.reduceLT, Nat.reduceEqDiff, Nat.reduceSub]
    refine hK _ _ ?_; clear hK hgd; clear K; try clear gd
    repeat refine c_r ?_
    refine rg0 ?_
    repeat refine c_r ?_
    refine wc0 ?_ ?_
    ·intro hne
     simp only [Bool.not_eq_true', decide_eq_false_iff_not] at hne
     repeat (first | refine c_r ?_ | refine rg0 ?_)
     refine rt0 Tryz.ntmps221 ?_
     exact ⟨by rw [hinv, hst, if_neg hne], hE.trans hE1⟩
    ·intro heq
     simp only [Bool.not_eq_false', decide_eq_true_eq] at heq
     repeat refine c_r ?_
     refine rg1 h13 ?_
     repeat refine c_r ?_
     exact ⟨m - 1, by omega, rfl, i + 1, by omega, by omega, by simp only [↓reduceIte, go_sem, Nat.reduceLT, Nat.reduceEqDiff, Nat.reduceSub]; push_cast; rfl, (vq1 h12), by simp only [↓reduceIte, go_sem, Nat.reduceLT, Nat.reduceEqDiff, Nat.reduceSub, h11], (vq1 h0), (vq1 h1), (vq1 h2), hE.trans hE1, by rw [hinv, hst, if_pos heq]⟩
  ·intro hge
   simp only [decide_eq_false_iff_not] at hge
   have e : xs.drop i = [] := List.drop_of_length_le (by omega)
   have l2 : (ys.drop i).length = ys.length - i := by simp
   have hval : lexC cf xs ys = cmpI 0 (ys.length - i : Nat) := by rw [hinv, lexC_nil (.inl e), e, l2]; rfl
   repeat refine c_r ?_
   refine rg2 h0 h1 ?_
   repeat refine c_r ?_
   refine wc0 ?_ ?_
   ·intro h
    simp only [decide_eq_true_eq] at h
    repeat (first | refine c_r ?_ | refine rg0 ?_)
    refine rt0 Tryz.ntmps221 ?_
    exact ⟨by rw [hval, cmpI, if_pos (by omega)], hE⟩
   ·intro h
    simp only [decide_eq_false_iff_not] at h
    repeat (first | refine c_r ?_ | refine rg0 ?_)
    refine rt0 Tryz.ntmps221 ?_
    exact ⟨by rw [hval, cmpI, if_neg (by omega), if_neg (by omega)], hE⟩
end Go.Proofs.YtopbbjdembnfdaaGreat.C_ct
namespace Go.Proofs.YtopbbjdembnfdaaGreat.N_uint32
open Go Go.Proofs.YtopbbjdembnfdaaGreat
set_option maxRecDepth 10000
theorem isNaN_ok (w : World) (a : Int) : Fn Tryz.prog 220 #[.int .u32 a] w (fun v w' => v = .bool false ∧ w' = w) := by
 refine enter Tryz.func220 Tryz.ntmps220 rfl rfl ?_
 repeat (first | refine c_r ?_ | (refine W_reg (by rfl) ?_; intro gd K hgd hK; simp (disch := first | omega | assumption | rfl) only [↓reduceIte, go_sem, Nat.reduceLT, Nat.reduceEqDiff, Nat.reduceSub, decide_true]; refine hK _ _ ?_; clear hK hgd; clear K gd))
 refine rt0 Tryz.ntmps220 ?_
 exact ⟨rfl, rfl⟩
theorem Compare_ok (w : World) (a b : Int) : Fn Tryz.prog 189 #[.int .u32 a, .int .u32 b] w (fun v w' => v = vi (cmpI a b) ∧ w' = w) := by
 refine enter Tryz.func189 Tryz.ntmps189 rfl rfl ?_
 repeat refine c_r ?_
 refine rg0 ?_
 repeat refine c_r ?_
 refine rq ?_; intro gd K hgd hK
 try simp (disch := first | omega | assumption | rfl) only [↓reduceIte, go_sem, Nat.reduceLT, Nat.reduceEqDiff, Nat.reduceSub]
 refine Fn.mono (isNaN_ok _ _) ?_
 rintro _ _ ⟨rfl, rfl⟩
 try simp (disch := first | omega | assumption | rfl) only [↓reduceIte, go_sem, Nat.reduceLT, Nat.reduceEqDiff, Nat.reduceSub]
 refine hK _ _ ?_; clear hK hgd; clear K; try clear gd
 repeat refine c_r ?_
 refine rq ?_; intro gd K hgd hK
 try simp (disch := first | omega | assumption | rfl) only [↓reduceIte, go_sem, Nat.reduceLT, Nat.reduceEqDiff, Nat.reduceSub]
 refine Fn.mono (isNaN_ok _ _) ?_
 rintro _ _ ⟨rfl, rfl⟩
 try simp (disch := first | omega | assumption | rfl) only [↓reduceIte, go_sem, Nat.reduceLT, Nat.reduceEqDiff, Nat.reduceSub]
 refine hK _ _ ?_; clear hK hgd; clear K; try clear gd
 repeat refine c_r ?_
 refine rg0 ?_
 repeat refine c_r ?_
 refine wc0 ?_ ?_
 ·intro h; cases h
 intro _
 repeat refine c_r ?_
 refine rg0 ?_
 repeat refine c_r ?_
 refine wc0 ?_ ?_
 ·intro h; cases h
 intro _
 repeat refine c_r ?_
 refine rg0 ?_
 repeat refine c_r ?_
 refine wc0 ?_ ?_
 ·intro h
  simp only [decide_eq_true_eq] at h
  repeat (first | refine c_r ?_ | refine rg0 ?_)
  refine rt0 Tryz.ntmps189 ?_
  exact ⟨by rw [cmpI, if_pos h], rfl⟩
 intro h
 simp only [decide_eq_false_iff_not] at h
 repeat (first | refine c_r ?_ | refine rg0 ?_)
 refine wc0 ?_ ?_
 ·intro h2
  simp only [decide_eq_true_eq] at h2
  repeat (first | refine c_r ?_ | refine rg0 ?_)
  refine rt0 Tryz.ntmps189 ?_
  exact ⟨by rw [cmpI, if_neg h, if_pos h2], rfl⟩
 intro h2
 simp only [decide_eq_false_iff_not] at h2
 repeat (first | refine c_r ?_ | refine rg0 ?_)
 refine rt0 Tryz.ntmps189 ?_
 exact ⟨by rw [cmpI, if_neg h, if_neg h2], rfl⟩
end Go.Proofs.YtopbbjdembnfdaaGreat.N_uint32
namespace Go.Proofs.YtopbbjdembnfdaaGreat
open Go
set_option maxRecDepth 10000
theorem loadBytes_run {P : Program} {w : World} : ∀ (l : List UInt8) (a : Addr) (acc : ByteArray), (∀ j (h : j < l.length), w.cell? (a.add j) = some (byteV l[j])) → (Extern.Bytes.loadBytes a l.length acc).run P w = .ok ⟨acc.data ++ l.toArray⟩ w
 | [], a, acc, _ => by simp [Extern.Bytes.loadBytes, Sem.run]
 | c :: l, a, acc, h => by
  have h0 := h 0 (by simp)
  have ha0 : a.add 0 = a := by simp [Addr.add]
  rw [ha0] at h0
  have ih := loadBytes_run (P := P) l (a.add 1) (acc.push c) (fun j hj => by
   have := h (j + 1) (by simp; omega)
   rw [addr_add_add, Nat.add_comm 1 j]
   simpa using this)
  have e : (load a).run P w = .ok (byteV c) w := by simp [load, Sem.run, h0]
  simp only [List.length_cons, Extern.Bytes.loadBytes, Sem.run_bind, e, Result.andThen_ok]
  show (Extern.Bytes.loadBytes (a.add 1) l.length (acc.push (((c.toNat : Nat) : Int).toNat.toUInt8))).run P w = _
  have e2 : ((c.toNat : Nat) : Int).toNat.toUInt8 = c := by simp
  rw [e2, ih]
  simp [ByteArray.push]
theorem bytesOf_run {P : Program} {w : World} {v : Value} {l : List UInt8} (h : Row w v (l.map byteV)) : (Extern.Bytes.bytesOf v).run P w = .ok ⟨l.toArray⟩ w := by
 obtain ⟨a, c, rfl, _, hl⟩ := h
 simp only [List.length_map] at hl ⊢
 cases a with
 | none =>
  cases l with
  | nil => rfl
  | cons c l => have := hl 0 (by simp); simp [cellO, adr] at this
 | some a =>
  have := loadBytes_run (P := P) (w := w) l a .empty (fun j hj => by
   have := hl j hj
   simpa [cellO, adr] using this)
  simpa [Extern.Bytes.bytesOf] using this
theorem BCompare_ok (w : World) (a b : Value) (xs ys : List UInt8) (ha : Row w a (xs.map byteV)) (hb : Row w b (ys.map byteV)) : Fn Tryz.prog 191 #[a, b] w (fun v w' => v = vi (cmpL xs ys) ∧ w' = w) := by
 have h1 := bytesOf_run (P := Tryz.prog) ha
 have h2 := bytesOf_run (P := Tryz.prog) hb
 refine enter Tryz.func191 Tryz.ntmps191 rfl rfl ?_
 repeat refine c_r ?_
 refine rg0 ?_
 repeat refine c_r ?_
 refine rq ?_; intro gd K hgd hK
 try simp (disch := first | omega | assumption | rfl) only [↓reduceIte, go_sem, Nat.reduceLT, Nat.reduceEqDiff, Nat.reduceSub]
 refine ⟨vi (cmpL xs ys), w, ?_, ?_⟩
 ·rw [run_callFunc_extern Tryz.func222 (by kernel_rfl) (by kernel_rfl) (by kernel_rfl) (e := Extern.BytealgCompare.compare) (by kernel_rfl)]
  have : (Extern.BytealgCompare.compare #[a, b]).run Tryz.prog w = .ok (vi (cmpL xs ys)) w := by
   show (do pure (goInt (Extern.BytealgCompare.cmp (← Extern.Bytes.bytesOf a) (← Extern.Bytes.bytesOf b))) : Sem Value).run Tryz.prog w = _
   simp only [Sem.run_bind, h1, h2, Result.andThen_ok, Sem.run_pure]
   rw [Lib.cmp_eq]
   rfl
  rw [this]; rfl
 try simp (disch := first | omega | assumption | rfl) only [↓reduceIte, go_sem, Nat.reduceLT, Nat.reduceEqDiff, Nat.reduceSub]
 refine hK _ _ ?_; clear hK hgd; clear K; try clear gd
 repeat refine c_r ?_
 refine rt0 Tryz.ntmps191 ?_
 exact ⟨rfl, rfl⟩
def cellsO (w : World) (p : Option Addr) (k : Nat) : Option (List Value) := p.bind fun a => cellsV w a 0 k
theorem ldA_cells {P : Program} {w : World} {t : TypeId} {p : Option Addr} (hA : tyA P t = true) : ldA P w t p = (cellsO w p (tyS P t)).map fun l => .agg l.toArray := by
 cases p with
 | none => rfl
 | some a => simp [ldA, ldP, ldV, hA, cellsO]
theorem cellsV_block {w : World} {b o : Nat} {cur : Array Value} {e : TypeId} {fr : Nat × Nat} (h : w.heap[b]? = some (.cells cur e fr)) : ∀ (k i : Nat), o + i + k ≤ cur.size →
  cellsV w ⟨b, o, Option.none⟩ i k = some ((cur.toList.drop (o + i)).take k)
 | 0, _, _ => by simp [cellsV]
 | k + 1, i, hk => by
  unfold cellsV
  rw [addr_add, cell_of h, cellsV_block h k (i + 1) (by omega)]
  have hlt : o + i < cur.size := by omega
  have hd := List.drop_eq_getElem_cons (l := cur.toList) (i := o + i) (by simpa using hlt)
  rw [Array.getElem?_eq_getElem hlt, hd, List.take_succ_cons]
  rfl
theorem cellsO_block {w : World} {b o k : Nat} {cur : Array Value} {e : TypeId} {fr : Nat × Nat} (h : w.heap[b]? = some (.cells cur e fr)) (hk : o + k ≤ cur.size) :
  cellsO w (some ⟨b, o, Option.none⟩) k = some ((cur.toList.drop o).take k) := by
 have := cellsV_block (o := o) h k 0 (by omega)
 simpa [cellsO] using this
theorem cellsO_keep {S : Nat → Prop} {w x : World} (hk : Keep S w x) {p : Option Addr} (hS : offS S p) {k : Nat} {l : List Value} (h : cellsO w p k = some l) : cellsO x p k = some l := by
 cases p with
 | none => cases h
 | some a => exact cellsV_keep hk (hS a rfl) k 0 l h
theorem cellsO_ext {w x : World} (hk : Ext w x) {p : Option Addr} {k : Nat} {l : List Value} (h : cellsO w p k = some l) : cellsO x p k = some l :=
 cellsO_keep hk (by simp [offS, NoS]) h
theorem cellsO_some {w : World} {a : Option Addr} {j k : Nat} {l : List Value} (h : cellsO w (adr a j) k = some l) : a.isSome = true := by
 cases a with
 | none => simp [cellsO, adr] at h
 | some a => rfl
theorem cellsV_len {w : World} {a : Addr} : ∀ {k i : Nat} {l : List Value}, cellsV w a i k = some l → l.length = k
 | 0, _, l, h => by simp [cellsV] at h; subst h; rfl
 | k + 1, i, l, h => by
  unfold cellsV at h
  split at h
  ·rename_i v l' h1 h2
   cases h
   simp [cellsV_len h2]
  ·cases h
theorem cellsO_len {w : World} {p : Option Addr} {k : Nat} {l : List Value} (h : cellsO w p k = some l) : l.length = k := by
 cases p with
 | none => cases h
 | some a => exact cellsV_len h
theorem cellsV_get {w : World} {a : Addr} : ∀ {k i : Nat} {l : List Value}, cellsV w a i k = some l → ∀ (j : Nat) (h : j < l.length), w.cell? (a.add (i + j)) = some l[j]
 | 0, _, l, h, j, hj => by simp [cellsV] at h; subst h; simp at hj
 | k + 1, i, l, h, j, hj => by
  unfold cellsV at h
  split at h
  ·rename_i v l' h1 h2
   cases h
   cases j with
   | zero => exact h1
   | succ j =>
    have := cellsV_get h2 j (by simpa using hj)
    rw [show i + (j + 1) = i + 1 + j from by omega]
    exact this
  ·cases h
theorem cellsO_get {w : World} {p : Option Addr} {k : Nat} {l : List Value} (h : cellsO w p k = some l) {j : Nat} (hj : j < l.length) : cellO w (adr p j) = some l[j] := by
 cases p with
 | none => cases h
 | some a =>
  have := cellsV_get (i := 0) h j hj
  rw [Nat.zero_add] at this
  exact this
def RowK (k : Nat) (w : World) (v : Value) (L : List (List Value)) : Prop :=
 ∃ a c, v = .slice a L.length c ∧ L.length ≤ c ∧ ∀ j (h : j < L.length), cellsO w (adr a (j * k)) k = some L[j]
theorem RowK.ext {k : Nat} {w x : World} {v : Value} {L : List (List Value)} (h : RowK k w v L) (hE : Ext w x) : RowK k x v L := by
 obtain ⟨a, c, rfl, hc, hl⟩ := h
 exact ⟨a, c, rfl, hc, fun j hj => cellsO_ext hE (hl j hj)⟩
/-! ### a block of elements -/
structure SD (k : Nat) (w : World) (b : Nat) (e : TypeId) (cap : Nat) (D : List (List Value)) : Prop where
 lies : ∃ cur : Array Value, ∃ R : List Value, w.heap[b]? = some (.cells cur e (0, 0)) ∧ cur.toList = D.flatten ++ R ∧ cur.size = cap * k
 len : ∀ x ∈ D, x.length = k
 ones : ∀ x ∈ D, ∀ v ∈ x, one v = true
theorem flat_len_k {k : Nat} : ∀ {D : List (List Value)}, (∀ x ∈ D, x.length = k) → D.flatten.length = D.length * k
 | [], _ => by simp
 | x :: D, h => by
  have h1 := h x (List.mem_cons_self ..)
  have h2 := flat_len_k (D := D) (fun y hy => h y (List.mem_cons_of_mem _ hy))
  rw [List.flatten_cons, List.length_append, h1, h2, List.length_cons, Nat.succ_mul]; omega
theorem flat_at {k : Nat} {D : List (List Value)} (h : ∀ x ∈ D, x.length = k) {j : Nat} (hj : j < D.length) : D.flatten = (D.take j).flatten ++ D[j] ++ (D.drop (j + 1)).flatten ∧ (D.take j).flatten.length = j * k := by
 constructor
 ·refine (congrArg List.flatten (split_at hj)).trans ?_
  rw [List.flatten_append, List.flatten_cons, List.append_assoc]
 ·rw [flat_len_k (fun x hx => h x (List.mem_of_mem_take hx)), List.length_take, Nat.min_eq_left (by omega)]
theorem SD.get {k : Nat} {w : World} {b : Nat} {e : TypeId} {cap : Nat} {D : List (List Value)} (h : SD k w b e cap D) {j : Nat} (hj : j < D.length) : cellsO w (some ⟨b, j * k, Option.none⟩) k = some D[j] := by
 obtain ⟨cur, R, hb, hc, hs⟩ := h.lies
 obtain ⟨e1, e2⟩ := flat_at h.len hj
 have hk := h.len D[j] (List.getElem_mem hj)
 have hlen : cur.toList.length = D.flatten.length + R.length := by rw [hc]; simp
 have e3 := congrArg List.length e1
 simp only [List.length_append] at e3
 have hsz : cur.toList.length = cur.size := by simp
 rw [cellsO_block hb (by omega), hc, e1, List.append_assoc, List.append_assoc, List.drop_left' e2, List.take_left' hk]
theorem stC_block {b o : Nat} {e : TypeId} : ∀ (l : List Value) (i : Nat) (w : World) (A V B : List Value) (cur : Array Value), w.heap[b]? = some (.cells cur e (0, 0)) → cur.toList = A ++ V ++ B → A.length = o + i → V.length = l.length → (∀ v ∈ l, one v = true) →
  ∃ w', stC w ⟨b, o, Option.none⟩ i l = some w' ∧ w'.heap.size = w.heap.size ∧ Keep (fun x => x = b) w w' ∧ ∃ cur' : Array Value, w'.heap[b]? = some (.cells cur' e (0, 0)) ∧ cur'.toList = A ++ l ++ B
 | [], i, w, A, V, B, cur, hb, hc, hA, hV, _ => by
  have : V = [] := List.length_eq_zero_iff.1 hV
  subst this
  exact ⟨w, rfl, rfl, Keep.refl _ _, cur, hb, by simpa using hc⟩
 | v :: l, i, w, A, V, B, cur, hb, hc, hA, hV, h1 => by
  cases V with
  | nil => simp at hV
  | cons u V =>
   have hcl := congrArg List.length hc
   simp only [List.length_append, List.length_cons, Array.length_toList] at hcl
   have hlt : o + i < cur.size := by omega
   have hset : (cur.setIfInBounds (o + i) v).toList = (A ++ [v]) ++ V ++ B := by
    rw [Array.toList_setIfInBounds, hc, ← hA, List.append_assoc, List.set_append_right _ _ (Nat.le_refl _), Nat.sub_self]
    simp
   obtain ⟨w', k1, k2, k3, cur', k4, k5⟩ := stC_block l (i + 1) (w.setCell ⟨b, o + i, Option.none⟩ v) (A ++ [v]) V B _ (set_block hb) hset (by rw [List.length_append, hA]; rfl) (by simpa using hV) (fun x hx => h1 x (List.mem_cons_of_mem _ hx))
   refine ⟨w', ?_, by rw [k2]; simp, (set_keep w b (o + i) v).trans k3, cur', k4, by simpa using k5⟩
   unfold stC
   rw [addr_add, cell_of hb, frozen_of hb, Array.getElem?_eq_getElem hlt, h1 v (List.mem_cons_self ..)]
   simpa using k1
theorem SD.set {k : Nat} {w : World} {b : Nat} {e : TypeId} {cap : Nat} {D : List (List Value)} (h : SD k w b e cap D) {P : Program} {t : TypeId} {K : Value → World → Prop} {j : Nat} (hj : j < D.length) {x : List Value} (hx : x.length = k) (h1 : ∀ v ∈ x, one v = true)
  (hs : tyS P t = k) (hi : (P.info? t).isSome = true) (hK : ∀ w', w'.heap.size = w.heap.size → SD k w' b e cap (D.set j x) → Keep (fun i => i = b) w w' → K undef w') :
  stK P t (.pointer (some ⟨b, j * k, Option.none⟩)) (.agg x.toArray) w K := by
 obtain ⟨cur, R, hb, hc, hsz⟩ := h.lies
 obtain ⟨e1, e2⟩ := flat_at h.len hj
 have hk := h.len D[j] (List.getElem_mem hj)
 rw [e1, List.append_assoc, List.append_assoc] at hc
 obtain ⟨w', k1, k2, k3, cur', k4, k5⟩ := stC_block (o := j * k) x 0 w (D.take j).flatten D[j] ((D.drop (j + 1)).flatten ++ R) cur hb (by rw [hc]; simp) (by simpa using e2) (by rw [hk, hx]) h1
 refine ⟨by simp [Value.cells, hx, hs], hi, w', by simpa [Value.cells] using k1, hK w' k2 ⟨⟨cur', R, k4, ?_, ?_⟩, ?_, ?_⟩ k3⟩
 ·have e3 : (D.set j x).flatten = (D.take j).flatten ++ x ++ (D.drop (j + 1)).flatten := by
   rw [List.set_eq_take_append_cons_drop, if_pos hj]; simp
  rw [k5, e3]; simp
 ·have l1 := congrArg List.length k5
  have l2 := congrArg List.length hc
  simp only [List.length_append, Array.length_toList] at l1 l2
  omega
 ·intro y hy
  rcases List.mem_or_eq_of_mem_set hy with hy | rfl
  ·exact h.len y hy
  ·exact hx
 ·intro y hy
  rcases List.mem_or_eq_of_mem_set hy with hy | rfl
  ·exact h.ones y hy
  ·exact h1
theorem SD.keep {k : Nat} {w x : World} {b : Nat} {e : TypeId} {cap : Nat} {D : List (List Value)} {S : Nat → Prop} (h : SD k w b e cap D) (hk : Keep S w x) (hS : ¬ S b) : SD k x b e cap D := by
 obtain ⟨⟨cur, R, hb, hr⟩, h1, h2⟩ := h
 exact ⟨⟨cur, R, (hk.block _ (Array.getElem?_eq_some_iff.1 hb).1 hS).trans hb, hr⟩, h1, h2⟩
theorem SD.ext {k : Nat} {w x : World} {b : Nat} {e : TypeId} {cap : Nat} {D : List (List Value)} (h : SD k w b e cap D) (hE : Ext w x) : SD k x b e cap D := h.keep hE (fun h => h)
theorem SD.lt {k : Nat} {w : World} {b : Nat} {e : TypeId} {cap : Nat} {D : List (List Value)} (h : SD k w b e cap D) : b < w.heap.size := by
 obtain ⟨cur, R, hb, _⟩ := h.lies
 exact (Array.getElem?_eq_some_iff.1 hb).1
def ldAX (P : Program) (w : World) (t : TypeId) (p : Option Addr) : Bool → Nat → Option Value
 | true, k => (cellsO w p k).map fun l => .agg l.toArray
 | false, _ => ldP P w t p
theorem ldA_X {P : Program} {w : World} {t : TypeId} (p : Option Addr) : ldA P w t p = ldAX P w t p (tyA P t) (tyS P t) := by
 cases hA : tyA P t with
 | true => exact ldA_cells hA
 | false => rfl
theorem ldAX_true {P : Program} {w : World} {t : TypeId} (p : Option Addr) (k : Nat) : ldAX P w t p true k = (cellsO w p k).map fun l => .agg l.toArray := nr rfl
attribute [go_sem] ldA_X ldAX_true
def partsOf (k : Nat) : List Value → List (Nat × Value)
 | [] => []
 | v :: l => (k, v) :: partsOf (k + 1) l
theorem fill_ones : ∀ (l : List Value) (k : Nat) (cells : Array Value), (∀ v ∈ l, v.cells = #[v]) → k + l.length ≤ cells.size →
  ∃ r, Instr.fill (fun i => some (i * 1, 1)) cells (partsOf k l) = some r ∧ r.toList = cells.toList.take k ++ l ++ cells.toList.drop (k + l.length)
 | [], k, cells, _, _ => ⟨cells, rfl, by simp⟩
 | v :: l, k, cells, h, hk => by
  simp only [List.length_cons] at hk
  have hv := h v (List.mem_cons_self ..)
  obtain ⟨r, h1, h2⟩ := fill_ones l (k + 1) (cells.setIfInBounds k v) (fun u hu => h u (List.mem_cons_of_mem _ hu)) (by simp; omega)
  refine ⟨r, ?_, ?_⟩
  ·unfold partsOf Instr.fill
   simp only [hv, Nat.mul_one]
   have : ¬ ((#[v] : Array Value).size ≠ 1 ∨ k + (#[v] : Array Value).size > cells.size) := by simp; omega
   rw [if_neg (by simpa using this)]
   simpa using h1
  ·rw [h2, Array.toList_setIfInBounds, List.take_set, List.drop_set_of_lt (by omega)]
   have hlt : k < cells.toList.length := by simp; omega
   rw [take_succ' hlt]
   have e1 : (cells.toList.take k).length = k := by rw [List.length_take]; omega
   rw [List.set_append_right _ _ (by omega), e1, Nat.sub_self, List.set_cons_zero]
   simp [Nat.add_assoc, Nat.add_comm 1]
section
variable {P : Program} {w : World} {K : Value → World → Prop}
theorem bs_list {t e : TypeId} {z : Value} {l : List Value} {n : Nat} {parts : List (Nat × Value)} (hn : n = l.length) (hp : parts = partsOf 0 l) (hu : tyU P t = some (.slice e)) (hz : tyZ P e = some z) (hs : tyS P e = 1) (hz1 : z.cells = #[z]) (hv : ∀ v ∈ l, v.cells = #[v]) (hl : l.length ≤ 1000000)
  (h : ∀ w1, Ext w w1 → w1.heap.size = w.heap.size + 1 → Own w.heap.size w1 e (.slice (some ⟨w.heap.size, 0, Option.none⟩) n n) l → K (.slice (some ⟨w.heap.size, 0, Option.none⟩) n n) w1) : bsL P t n parts w K .mk := by
 subst hn hp
 unfold bsL bsK
 have hsz : ((Array.range (l.length * 1)).map fun x => z.cells[x % z.cells.size]!).size = l.length := by simp
 obtain ⟨r, h1, h2⟩ := fill_ones l 0 ((Array.range (l.length * 1)).map fun x => z.cells[x % z.cells.size]!) hv (by rw [hsz]; omega)
 have hr : r.toList = l := by
  rw [h2, List.take_zero, List.nil_append, Nat.zero_add, List.drop_of_length_le (by rw [Array.length_toList, hsz]; exact Nat.le_refl _), List.append_nil]
 have : bsC P t l.length (partsOf 0 l) = some (e, r) := by
  unfold bsC
  rw [hu]
  simp only [hz, hs]
  have c1 : (decide (l.length * 1 ≤ 2 ^ 24) && decide (z.cells.size = 1)) = true := by rw [hz1]; simp; omega
  rw [c1, cond_true, h1]; rfl
 rw [this]
 have hrs : r.size = l.length := by rw [← hr]; simp
 exact h _ (Ext.alloc w _) (new_size w _) ⟨by simp, .inr ⟨w.heap.size, l.length, r, rfl, Nat.le_refl _, new_block w _, Nat.le_refl _, by simp [maxLen]; omega, by simpa using hrs, by rw [hr]; simp⟩⟩
end
abbrev v32 (n : Int) : Value := .int .u32 n
structure DatL where
 ty : Int
 names : List Nm
 nums : List Int
 texts : List Lab
 raw : List UInt8
structure RecL where
 owner : Nm
 ttl : Int
 dat : DatL
def cmpF2 (a b : Nm) : Int := cmpN (foldN a) (foldN b)
def cmpD (a b : DatL) : Int := orI [cmpI a.ty b.ty, lexC cmpF2 a.names b.names, lexC cmpI a.nums b.nums, lexC cmpL a.texts b.texts, cmpL a.raw b.raw]
def cmpRec (a b : RecL) : Int := orI [cmpF2 a.owner b.owner, cmpI a.dat.ty b.dat.ty, cmpD a.dat b.dat]
structure DatAt (w : World) (cs : List Value) (d : DatL) : Prop where
 ex : ∃ nm nu tx rw, cs = [vi d.ty, nm, nu, tx, rw] ∧ NamesAt w nm d.names ∧ Row w nu (d.nums.map v32) ∧ Row w tx (d.texts.map vs) ∧ Row w rw (d.raw.map byteV)
structure RecAt (w : World) (cs : List Value) (r : RecL) : Prop where
 ex : ∃ ow ds, cs = ow :: v32 r.ttl :: ds ∧ Row w ow (r.owner.map vs) ∧ DatAt w ds r.dat
theorem DatAt.ext {w x : World} {cs : List Value} {d : DatL} (h : DatAt w cs d) (hE : Ext w x) : DatAt x cs d := by
 obtain ⟨nm, nu, tx, rw, e, h1, h2, h3, h4⟩ := h.ex
 exact ⟨nm, nu, tx, rw, e, h1.ext hE, h2.ext hE, h3.ext hE, h4.ext hE⟩
theorem RecAt.ext {w x : World} {cs : List Value} {r : RecL} (h : RecAt w cs r) (hE : Ext w x) : RecAt x cs r := by
 obtain ⟨ow, ds, e, h1, h2⟩ := h.ex
 exact ⟨ow, ds, e, h1.ext hE, h2.ext hE⟩
structure DatOk (d : DatL) : Prop where
 names : ∀ n ∈ d.names, LB n ∧ n.length ≤ 1000000000000000
 nn : d.names.length ≤ 1000000000000000
 nu : d.nums.length ≤ 1000000000000000
 nt : d.texts.length ≤ 1000000000000000
 nv : ∀ n ∈ d.nums, 0 ≤ n ∧ n ≤ 4294967295
 nr : d.raw.length ≤ 1000000000000000
structure RecOk (r : RecL) : Prop where
 lb : LB r.owner
 len : r.owner.length ≤ 1000000000000000
 dat : DatOk r.dat
theorem cellO_at {w : World} {b i : Nat} {cur : Array Value} {e : TypeId} {fr : Nat × Nat} {v : Value} (h : w.heap[b]? = some (.cells cur e fr)) (hv : cur[i]? = some v) : cellO w (some ⟨b, i, Option.none⟩) = some v := by
 show w.cell? _ = _
 rw [cell_of h]; exact hv
theorem rowN_ok (w : World) (a b : Value) (xs ys : List Nm) (ha : NamesAt w a xs) (hb : NamesAt w b ys) (hx : ∀ n ∈ xs, LB n ∧ n.length ≤ 1000000000000000) (hy : ∀ n ∈ ys, LB n ∧ n.length ≤ 1000000000000000) (hxl : xs.length ≤ 1000000000000000) (hyl : ys.length ≤ 1000000000000000) :
  Fn Tryz.prog 187 #[a, b, .func (.func 54) #[] #[]] w (fun v w' => v = vi (lexC cmpF2 xs ys) ∧ Ext w w') := by
 refine enter Tryz.func187 Tryz.ntmps187 rfl rfl ?_
 repeat refine c_r ?_
 refine rg0 ?_
 repeat refine c_r ?_
 refine rq ?_; intro gd K hgd hK
 try simp (disch := first | omega | assumption | rfl) only [↓reduceIte, go_sem, Nat.reduceLT, Nat.reduceEqDiff, Nat.reduceSub]
 refine Fn.mono (C_cn.CompareFunc_ok (Rl := fun w (n : Nm) v => Row w v (n.map vs)) (U := fun n => LB n ∧ n.length ≤ 1000000000000000) (cf := cmpF2) (fun w x a v hE h => h.ext hE) rfl (fun A x y u v hE hx hy hu hv => NCompare_ok A u v x y hu hv hx.1 hy.1 (by have := hx.2; omega) (by have := hy.2; omega)) (xs := xs) (ys := ys) ha hb hx hy hxl hyl) ?_
 rintro _ w1 ⟨rfl, hE⟩
 try simp (disch := first | omega | assumption | rfl) only [↓reduceIte, go_sem, Nat.reduceLT, Nat.reduceEqDiff, Nat.reduceSub]
 refine hK _ _ ?_; clear hK hgd; clear K; try clear gd
 repeat refine c_r ?_
 refine rt0 Tryz.ntmps187 ?_
 exact ⟨rfl, hE⟩
theorem RowR_map {α : Type} {f : α → Value} {w : World} {v : Value} {xs : List α} (h : Row w v (xs.map f)) : C_cu.RowR (fun _ a u => u = f a) w v xs := ⟨_, h, by simp, fun i h1 h2 => by simp⟩
theorem rowU_ok (w : World) (a b : Value) (xs ys : List Int) (ha : Row w a (xs.map v32)) (hb : Row w b (ys.map v32)) (hxl : xs.length ≤ 1000000000000000) (hyl : ys.length ≤ 1000000000000000) :
  Fn Tryz.prog 188 #[a, b, .func (.func 189) #[] #[]] w (fun v w' => v = vi (lexC cmpI xs ys) ∧ Ext w w') := by
 refine enter Tryz.func188 Tryz.ntmps188 rfl rfl ?_
 repeat refine c_r ?_
 refine rg0 ?_
 repeat refine c_r ?_
 refine rq ?_; intro gd K hgd hK
 try simp (disch := first | omega | assumption | rfl) only [↓reduceIte, go_sem, Nat.reduceLT, Nat.reduceEqDiff, Nat.reduceSub]
 refine Fn.mono (C_cu.CompareFunc_ok (Rl := fun _ (n : Int) v => v = v32 n) (U := fun _ => True) (cf := cmpI) (fun w x a v hE h => h) rfl (fun A x y u v hE hx hy hu hv => by subst hu hv; exact Fn.mono (N_uint32.Compare_ok A x y) (fun _ _ ⟨h1, h2⟩ => ⟨h1, h2 ▸ Keep.refl _ _⟩)) (xs := xs) (ys := ys) (RowR_map ha) (RowR_map hb) (fun _ _ => trivial) (fun _ _ => trivial) hxl hyl) ?_
 rintro _ w1 ⟨rfl, hE⟩
 try simp (disch := first | omega | assumption | rfl) only [↓reduceIte, go_sem, Nat.reduceLT, Nat.reduceEqDiff, Nat.reduceSub]
 refine hK _ _ ?_; clear hK hgd; clear K; try clear gd
 repeat refine c_r ?_
 refine rt0 Tryz.ntmps188 ?_
 exact ⟨rfl, hE⟩
theorem rowT_ok (w : World) (a b : Value) (xs ys : List Lab) (ha : Row w a (xs.map vs)) (hb : Row w b (ys.map vs)) (hxl : xs.length ≤ 1000000000000000) (hyl : ys.length ≤ 1000000000000000) :
  Fn Tryz.prog 190 #[a, b, .func (.func 170) #[] #[]] w (fun v w' => v = vi (lexC cmpL xs ys) ∧ Ext w w') := by
 refine enter Tryz.func190 Tryz.ntmps190 rfl rfl ?_
 repeat refine c_r ?_
 refine rg0 ?_
 repeat refine c_r ?_
 refine rq ?_; intro gd K hgd hK
 try simp (disch := first | omega | assumption | rfl) only [↓reduceIte, go_sem, Nat.reduceLT, Nat.reduceEqDiff, Nat.reduceSub]
 refine Fn.mono (C_ct.CompareFunc_ok (Rl := fun _ (n : Lab) v => v = vs n) (U := fun _ => True) (cf := cmpL) (fun w x a v hE h => h) rfl (fun A x y u v hE hx hy hu hv => by subst hu hv; exact Fn.mono (SCompare_ok A x y) (fun _ _ ⟨h1, h2⟩ => ⟨h1, h2 ▸ Keep.refl _ _⟩)) (xs := xs) (ys := ys) ⟨_, ha, by simp, fun i h1 h2 => by simp⟩ ⟨_, hb, by simp, fun i h1 h2 => by simp⟩ (fun _ _ => trivial) (fun _ _ => trivial) hxl hyl) ?_
 rintro _ w1 ⟨rfl, hE⟩
 try simp (disch := first | omega | assumption | rfl) only [↓reduceIte, go_sem, Nat.reduceLT, Nat.reduceEqDiff, Nat.reduceSub]
 refine hK _ _ ?_; clear hK hgd; clear K; try clear gd
 repeat refine c_r ?_
 refine rt0 Tryz.ntmps190 ?_
 exact ⟨rfl, hE⟩
theorem DCompare_ok (w : World) (ca cb : List Value) (a b : DatL) (ha : DatAt w ca a) (hb : DatAt w cb b) (hoa : DatOk a) (hob : DatOk b) :
  Fn Tryz.prog 147 #[.agg ca.toArray, .agg cb.toArray] w (fun v w' => v = vi (cmpD a b) ∧ Ext w w') := by
 obtain ⟨nm, nu, tx, rw', rfl, a1, a2, a3, a4⟩ := ha.ex
 obtain ⟨nm2, nu2, tx2, rw2, rfl, b1, b2, b3, b4⟩ := hb.ex
 refine enter Tryz.func147 Tryz.ntmps147 rfl rfl ?_
 repeat refine c_r ?_
 refine rg0 ?_
 repeat refine c_r ?_
 have k1 := new_block w (.cells #[vi a.ty, nm, nu, tx, rw'] 59 (0, 0))
 have kE := (Ext.alloc w (.cells #[vi a.ty, nm, nu, tx, rw'] 59 (0, 0))).trans (Ext.alloc _ (.cells #[vi b.ty, nm2, nu2, tx2, rw2] 59 (0, 0)))
 have k2 := new_block (w.alloc (.cells #[vi a.ty, nm, nu, tx, rw'] 59 (0, 0))) (.cells #[vi b.ty, nm2, nu2, tx2, rw2] 59 (0, 0))
 have k1' := (RowKit.Below.heap_alloc _ (.cells #[vi b.ty, nm2, nu2, tx2, rw2] 59 (0, 0)) _ (by simp)).trans k1
 rw [new_size] at k2 ⊢
 clear k1
 revert k1' kE k2
 generalize (w.alloc (.cells #[vi a.ty, nm, nu, tx, rw'] 59 (0, 0))).alloc (.cells #[vi b.ty, nm2, nu2, tx2, rw2] 59 (0, 0)) = w1
 intro kE k2 k1
 refine W_drw (fun _ => false) [(0, true), (1, true), (2, true), (3, true), (5, true), (6, true), (7, true), (8, true), (10, true), (11, true), (12, true), (13, true), (15, true), (16, true), (17, true), (18, true), (20, true), (21, true), (22, true), (23, true), (4, false), (9, false), (14, false), (19, false), (24, false), (25, false), (26, false), (27, true)] NoS mixed (by kernel_rfl) ?_; intro gd K x hgd hx hxe hK; clear hxe
 have hE1 := kE.trans hx
 have K1 := (hx.block _ (Array.getElem?_eq_some_iff.1 k1).1 (fun h => h)).trans k1
 have K2 := (hx.block _ (Array.getElem?_eq_some_iff.1 k2).1 (fun h => h)).trans k2
 have p0 : cellO x (some ⟨w.heap.size, 0, Option.none⟩) = some (vi a.ty) := cellO_at K1 rfl
 have p1 : cellO x (some ⟨w.heap.size, 1, Option.none⟩) = some (nm) := cellO_at K1 rfl
 have p2 : cellO x (some ⟨w.heap.size, 2, Option.none⟩) = some (nu) := cellO_at K1 rfl
 have p3 : cellO x (some ⟨w.heap.size, 3, Option.none⟩) = some (tx) := cellO_at K1 rfl
 have p4 : cellO x (some ⟨w.heap.size, 4, Option.none⟩) = some (rw') := cellO_at K1 rfl
 have q0 : cellO x (some ⟨w.heap.size + 1, 0, Option.none⟩) = some (vi b.ty) := cellO_at K2 rfl
 have q1 : cellO x (some ⟨w.heap.size + 1, 1, Option.none⟩) = some (nm2) := cellO_at K2 rfl
 have q2 : cellO x (some ⟨w.heap.size + 1, 2, Option.none⟩) = some (nu2) := cellO_at K2 rfl
 have q3 : cellO x (some ⟨w.heap.size + 1, 3, Option.none⟩) = some (tx2) := cellO_at K2 rfl
 have q4 : cellO x (some ⟨w.heap.size + 1, 4, Option.none⟩) = some (rw2) := cellO_at K2 rfl
 simp (disch := first | omega | assumption | rfl) only [↓reduceIte, go_sem, Nat.reduceLT, Nat.reduceEqDiff, Nat.reduceSub, p0, p1, p2, p3, p4, q0, q1, q2, q3, q4]
 refine Fn.mono (N_int.Compare_ok x _ _) ?_
 rintro _ x0 ⟨rfl, h0⟩
 replace h0 := h0.symm
 subst h0
 refine ⟨.inr (Keep.refl _ _), ?_⟩
 simp (disch := first | omega | assumption | rfl) only [↓reduceIte, go_sem, Nat.reduceLT, Nat.reduceEqDiff, Nat.reduceSub]
 refine Fn.mono (rowN_ok x _ _ _ _ (a1.ext hE1) (b1.ext hE1) hoa.names hob.names hoa.nn hob.nn) ?_
 rintro _ x1 ⟨rfl, h1⟩
 refine ⟨.inr h1, ?_⟩
 simp (disch := first | omega | assumption | rfl) only [↓reduceIte, go_sem, Nat.reduceLT, Nat.reduceEqDiff, Nat.reduceSub]
 refine Fn.mono (rowU_ok x1 _ _ _ _ (a2.ext (hE1.trans h1)) (b2.ext (hE1.trans h1)) hoa.nu hob.nu) ?_
 rintro _ x2 ⟨rfl, h2⟩
 refine ⟨.inr h2, ?_⟩
 simp (disch := first | omega | assumption | rfl) only [↓reduceIte, go_sem, Nat.reduceLT, Nat.reduceEqDiff, Nat.reduceSub]
 refine Fn.mono (rowT_ok x2 _ _ _ _ (a3.ext ((hE1.trans h1).trans h2)) (b3.ext ((hE1.trans h1).trans h2)) hoa.nt hob.nt) ?_
 rintro _ x3 ⟨rfl, h3⟩
 refine ⟨.inr h3, ?_⟩
 have hE3 := ((hE1.trans h1).trans h2).trans h3
 simp (disch := first | omega | assumption | rfl) only [↓reduceIte, go_sem, Nat.reduceLT, Nat.reduceEqDiff, Nat.reduceSub]
 refine Fn.mono (BCompare_ok x3 _ _ _ _ (a4.ext hE3) (b4.ext hE3)) ?_
 rintro _ x0 ⟨rfl, h0⟩
 replace h0 := h0.symm
 subst h0
 refine ⟨.inr (Keep.refl _ _), ?_⟩
 simp (disch := first | omega | assumption | rfl) only [↓reduceIte, go_sem, Nat.reduceLT, Nat.reduceEqDiff, Nat.reduceSub]
 refine bs_list (z := vi 0) (l := [vi (cmpI a.ty b.ty), vi (lexC cmpF2 a.names b.names), vi (lexC cmpI a.nums b.nums), vi (lexC cmpL a.texts b.texts), vi (cmpL a.raw b.raw)]) rfl rfl rfl rfl rfl rfl (fun v hv => by simp at hv; rcases hv with rfl | rfl | rfl | rfl | rfl <;> rfl) (by simp) ?_
 intro x4 h4 hs4 ho4
 refine ⟨.inr h4, ?_⟩
 simp (disch := first | omega | assumption | rfl) only [↓reduceIte, go_sem, Nat.reduceLT, Nat.reduceEqDiff, Nat.reduceSub]
 refine Fn.mono (Or_ok x4 _ [cmpI a.ty b.ty, lexC cmpF2 a.names b.names, lexC cmpI a.nums b.nums, lexC cmpL a.texts b.texts, cmpL a.raw b.raw] ho4.row (by simp)) ?_
 rintro _ x0 ⟨rfl, h0⟩
 replace h0 := h0.symm
 subst h0
 refine ⟨.inr (Keep.refl _ _), ?_⟩
 simp (disch := first | omega | assumption | rfl) only [↓reduceIte, go_sem, Nat.reduceLT, Nat.reduceEqDiff, Nat.reduceSub]
 refine hK _ _ ?_; clear hK hgd; clear K; try clear gd
 repeat refine c_r ?_
 refine rt0 Tryz.ntmps147 ?_
 exact ⟨rfl, hE3.trans h4⟩
theorem RecCompare_ok (w : World) (ca cb : List Value) (a b : RecL) (ha : RecAt w ca a) (hb : RecAt w cb b) (hoa : RecOk a) (hob : RecOk b) :
  Fn Tryz.prog 137 #[.agg ca.toArray, .agg cb.toArray] w (fun v w' => v = vi (cmpRec a b) ∧ Ext w w') := by
 obtain ⟨ow, ds, rfl, a1, a2⟩ := ha.ex
 obtain ⟨ow2, ds2, rfl, b1, b2⟩ := hb.ex
 have a2' := a2
 have b2' := b2
 obtain ⟨nm, nu, tx, rw', rfl, _⟩ := a2.ex
 obtain ⟨nm2, nu2, tx2, rw2, rfl, _⟩ := b2.ex
 refine enter Tryz.func137 Tryz.ntmps137 rfl rfl ?_
 repeat refine c_r ?_
 refine rg0 ?_
 repeat refine c_r ?_
 have k1 := new_block w (.cells #[ow, v32 a.ttl, vi a.dat.ty, nm, nu, tx, rw'] 110 (0, 0))
 have kE := (Ext.alloc w (.cells #[ow, v32 a.ttl, vi a.dat.ty, nm, nu, tx, rw'] 110 (0, 0))).trans (Ext.alloc _ (.cells #[ow2, v32 b.ttl, vi b.dat.ty, nm2, nu2, tx2, rw2] 110 (0, 0)))
 have k2 := new_block (w.alloc (.cells #[ow, v32 a.ttl, vi a.dat.ty, nm, nu, tx, rw'] 110 (0, 0))) (.cells #[ow2, v32 b.ttl, vi b.dat.ty, nm2, nu2, tx2, rw2] 110 (0, 0))
 have k1' := (RowKit.Below.heap_alloc _ (.cells #[ow2, v32 b.ttl, vi b.dat.ty, nm2, nu2, tx2, rw2] 110 (0, 0)) _ (by simp)).trans k1
 rw [new_size] at k2 ⊢
 clear k1
 revert k1' kE k2
 generalize (w.alloc (.cells #[ow, v32 a.ttl, vi a.dat.ty, nm, nu, tx, rw'] 110 (0, 0))).alloc (.cells #[ow2, v32 b.ttl, vi b.dat.ty, nm2, nu2, tx2, rw2] 110 (0, 0)) = w1
 intro kE k2 k1
 refine W_drw (fun _ => false) [(0, true), (1, true), (2, true), (3, true), (5, true), (6, true), (7, true), (8, true), (9, true), (10, true), (12, true), (13, true), (14, true), (15, true), (4, false), (11, false), (16, false), (17, false), (18, false), (19, true)] NoS mixed (by kernel_rfl) ?_; intro gd K x hgd hx hxe hK; clear hxe
 have hE1 := kE.trans hx
 have K1 := (hx.block _ (Array.getElem?_eq_some_iff.1 k1).1 (fun h => h)).trans k1
 have K2 := (hx.block _ (Array.getElem?_eq_some_iff.1 k2).1 (fun h => h)).trans k2
 have p0 : cellO x (some ⟨w.heap.size, 0, Option.none⟩) = some ow := cellO_at K1 rfl
 have p2 : cellO x (some ⟨w.heap.size, 2, Option.none⟩) = some (vi a.dat.ty) := cellO_at K1 rfl
 have p5 : cellsO x (some ⟨w.heap.size, 2, Option.none⟩) 5 = some [vi a.dat.ty, nm, nu, tx, rw'] := cellsO_block K1 (Nat.le_refl 7)
 have q0 : cellO x (some ⟨w.heap.size + 1, 0, Option.none⟩) = some ow2 := cellO_at K2 rfl
 have q2 : cellO x (some ⟨w.heap.size + 1, 2, Option.none⟩) = some (vi b.dat.ty) := cellO_at K2 rfl
 have q5 : cellsO x (some ⟨w.heap.size + 1, 2, Option.none⟩) 5 = some [vi b.dat.ty, nm2, nu2, tx2, rw2] := cellsO_block K2 (Nat.le_refl 7)
 simp (disch := first | omega | assumption | rfl) only [↓reduceIte, go_sem, Nat.reduceLT, Nat.reduceEqDiff, Nat.reduceSub, p0, p2, p5, q0, q2, q5, Nat.add_zero]
 refine Fn.mono (NCompare_ok x _ _ _ _ (a1.ext hE1) (b1.ext hE1) hoa.lb hob.lb (by have := hoa.len; omega) (by have := hob.len; omega)) ?_
 rintro _ x1 ⟨rfl, h1⟩
 refine ⟨.inr h1, ?_⟩
 simp (disch := first | omega | assumption | rfl) only [↓reduceIte, go_sem, Nat.reduceLT, Nat.reduceEqDiff, Nat.reduceSub]
 refine Fn.mono (N_int.Compare_ok x1 _ _) ?_
 rintro _ x0 ⟨rfl, h0⟩
 replace h0 := h0.symm
 subst h0
 refine ⟨.inr (Keep.refl _ _), ?_⟩
 simp (disch := first | omega | assumption | rfl) only [↓reduceIte, go_sem, Nat.reduceLT, Nat.reduceEqDiff, Nat.reduceSub]
 refine Fn.mono (DCompare_ok x1 _ _ a.dat b.dat (a2'.ext (hE1.trans h1)) (b2'.ext (hE1.trans h1)) hoa.dat hob.dat) ?_
 rintro _ x2 ⟨rfl, h2⟩
 refine ⟨.inr h2, ?_⟩
 simp (disch := first | omega | assumption | rfl) only [↓reduceIte, go_sem, Nat.reduceLT, Nat.reduceEqDiff, Nat.reduceSub]
 refine bs_list (z := vi 0) (l := [vi (cmpN (foldN a.owner) (foldN b.owner)), vi (cmpI a.dat.ty b.dat.ty), vi (cmpD a.dat b.dat)]) rfl rfl rfl rfl rfl rfl (fun v hv => by simp at hv; rcases hv with rfl | rfl | rfl <;> rfl) (by simp) ?_
 intro x4 h4 hs4 ho4
 refine ⟨.inr h4, ?_⟩
 simp (disch := first | omega | assumption | rfl) only [↓reduceIte, go_sem, Nat.reduceLT, Nat.reduceEqDiff, Nat.reduceSub]
 refine Fn.mono (Or_ok x4 _ [cmpN (foldN a.owner) (foldN b.owner), cmpI a.dat.ty b.dat.ty, cmpD a.dat b.dat] ho4.row (by simp)) ?_
 rintro _ x0 ⟨rfl, h0⟩
 replace h0 := h0.symm
 subst h0
 refine ⟨.inr (Keep.refl _ _), ?_⟩
 simp (disch := first | omega | assumption | rfl) only [↓reduceIte, go_sem, Nat.reduceLT, Nat.reduceEqDiff, Nat.reduceSub]
 refine hK _ _ ?_; clear hK hgd; clear K; try clear gd
 repeat refine c_r ?_
 refine rt0 Tryz.ntmps137 ?_
 exact ⟨rfl, ((hE1.trans h1).trans h2).trans h4⟩
end Go.Proofs.YtopbbjdembnfdaaGreat
