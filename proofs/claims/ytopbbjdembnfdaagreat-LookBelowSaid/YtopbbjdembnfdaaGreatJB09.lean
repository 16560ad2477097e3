/-
  Texts of a proof, joined: G5, Y3, M6ed, M6eg, F0, F1, G6, G7, KR2, G8, L3, K25, K26, Y6, L7.
  Conditions: none.
-/
import Derived.Test.YtopbbjdembnfdaaGreatJB08
import Derived.Test.YtopbbjdembnfdaaGreatJB01
import Derived.Test.YtopbbjdembnfdaaGreatJB05
import Derived.Test.YtopbbjdembnfdaaGreatJB02
import Derived.Test.YtopbbjdembnfdaaGreatJB07
import Derived.Test.YtopbbjdembnfdaaGreatJB03
import Derived.Test.YtopbbjdembnfdaaGreatJB04
set_option linter.unusedVariables false
set_option linter.unusedSimpArgs false
set_option linter.defProp false
set_option linter.unnecessarySimpa false
namespace Go.Proofs.YtopbbjdembnfdaaGreat
open Go
set_option maxRecDepth 10000

set_option maxHeartbeats 1000000 in
theorem RsFew_ok {w0 w : World} (hE0 : Ext w0 w) {lv : Value} {R : List RecL} (hl : Rows 7 (RecAt w0) w lv R) :
  Fn Tryz.prog 121 #[lv] w (fun v w' => Ext w w' ∧ ∃ b : Bool, v = .bool b ∧ (b = true → R.length ≤ 60 ∧ ∀ r ∈ R, few r.owner = true ∧ DatF r.dat)) := by
 obtain ⟨aR, cR, rfl, hcR, hgR⟩ := hl.open
 refine enter Tryz.func121 Tryz.ntmps121 rfl rfl ?_
 repeat refine c_r ?_
 refine rg0 ?_
 repeat refine c_r ?_
 refine rg0 ?_
 repeat refine c_r ?_
 refine wc0 ?_ ?_
 ·intro _
  repeat (first | refine c_r ?_ | refine rg0 ?_)
  refine rt0 Tryz.ntmps121 ?_
  exact ⟨Keep.refl _ _, false, rfl, fun h => by cases h⟩
 intro h60
 simp only [decide_eq_false_iff_not] at h60
 repeat refine c_r ?_
 refine rg0 ?_
 repeat refine c_r ?_
 refine W_loop (fun m σ ds A => ds = [] ∧ ∃ (i : Nat), i + m = R.length ∧ σ 3 = vi i ∧ σ 0 = .slice aR R.length cR ∧ Ext w A ∧ ∀ j (h : j < R.length), j < i → few R[j].owner = true ∧ DatF R[j].dat) R.length ?_ ?_
 ·exact ⟨rfl, 0, by omega, vr0, vq0, Keep.refl _ _, fun j h hj => absurd hj (by omega)⟩
 rintro m σ ds A ⟨rfl, i, him, h3, h0, hEA, hlow⟩
 repeat refine c_r ?_
 refine rg2 h3 h0 ?_
 repeat refine c_r ?_
 refine wc0 ?_ ?_
 ·intro hlt
  simp only [decide_eq_true_eq] at hlt
  have hi : i < R.length := by omega
  have hi0 : (0 : Int) ≤ (i : Int) := by omega
  have hi1 : (i : Int) < (R.length : Int) := by omega
  have hi1' : (i : Int) + 1 = ((i + 1 : Nat) : Int) := by push_cast; rfl
  obtain ⟨cr, hcr, hRr⟩ := hgR i hi
  obtain ⟨r, hr⟩ : ∃ r, R[i] = r := ⟨_, rfl⟩
  rw [hr] at hRr
  obtain ⟨ow, dsc, hcrE, o1, o2, g0, g1, g2, gd⟩ := hRr.cells
  obtain ⟨xR, rfl⟩ := Option.isSome_iff_exists.1 (cellsO_some hcr)
  obtain ⟨xi, hxi⟩ : ∃ xi, adr (some xR) (i * 7) = some xi := ⟨_, rfl⟩
  rw [hxi] at hcr
  obtain ⟨xd, hxd⟩ : ∃ xd, adr (some xi) 2 = some xd := ⟨_, rfl⟩
  have rc : ∀ {x}, Ext w x → cellO x (some xi) = some ow ∧ cellsO x (some xd) 5 = some dsc := fun {x} hx => by
   have hcx := cellsO_ext hx hcr
   have e0 := cell_of_cells hcx g0
   have e5 := cells_drop (m := 2) (k := 5) hcx
   rw [adr_zero] at e0
   rw [hxd, gd] at e5
   exact ⟨e0, e5⟩
  obtain ⟨c0, _⟩ := rc hEA
  have hwA := hE0.trans hEA
  repeat refine c_r ?_
  refine W_mono (Q := fun e σ' ds' v' => e = .normal ∧ ds' = [] ∧ σ' 3 = vi i ∧ σ' 0 = .slice (some xR) R.length cR ∧ Ext A v' ∧ ∃ bb, σ' 28 = .bool bb ∧ (bb = false → few r.owner = true ∧ DatF r.dat)) ?_ ?_
  ·cases hf : few r.owner with
   | false =>
    refine rq ?_; intro gd K hgd hK
    have hg7 : ∀ n σ b, wantV gd n σ (some (7, b)) = boolIs (ev n σ (.tmp 20)) b := (fun n σ b => by rw [wantV_some, show gd 7 = some 20 from (by rw [hgd]; rfl)]; rfl)
    try simp (disch := first | omega | assumption | rfl) only [↓reduceIte, go_sem, Nat.reduceLT, Nat.reduceEqDiff, Nat.reduceSub, h0, h3, hi0, hi1, hxi, c0, adr_zero]
    refine Fn.mono (Few_ok A ow r.owner (o1.ext hwA)) ?_
    rintro _ A2 ⟨rfl, hA2⟩
    rw [hf]
    try simp (disch := first | omega | assumption | rfl) only [↓reduceIte, go_sem, Nat.reduceLT, Nat.reduceEqDiff, Nat.reduceSub, Bool.not_false, ↓hg7]
    refine hK _ _ ?_; clear hK hgd; clear K; try clear gd
    exact ⟨rfl, rfl, (vq1 h3), (vq1 h0), hA2, _, vr0, fun h => by cases h⟩
   | true =>
    refine rq ?_; intro gd K hgd hK
    have hg7 : ∀ n σ b, wantV gd n σ (some (7, b)) = boolIs (ev n σ (.tmp 20)) b := (fun n σ b => by rw [wantV_some, show gd 7 = some 20 from (by rw [hgd]; rfl)]; rfl)
    try simp (disch := first | omega | assumption | rfl) only [↓reduceIte, go_sem, Nat.reduceLT, Nat.reduceEqDiff, Nat.reduceSub, h0, h3, hi0, hi1, hxi, c0, adr_zero]
    refine Fn.mono (Few_ok A ow r.owner (o1.ext hwA)) ?_
    rintro _ A2 ⟨rfl, hA2⟩
    rw [hf]
    obtain ⟨_, c5⟩ := rc (hEA.trans hA2)
    try simp (disch := first | omega | assumption | rfl) only [↓reduceIte, go_sem, Nat.reduceLT, Nat.reduceEqDiff, Nat.reduceSub, h0, h3, hi0, hi1, hxi, hxd, c5, Bool.not_true, ↓hg7]
    refine Fn.mono (DFew_ok (hwA.trans hA2) o2) ?_
    rintro _ A3 ⟨hA3, b, rfl, hb⟩
    try simp (disch := first | omega | assumption | rfl) only [↓reduceIte, go_sem, Nat.reduceLT, Nat.reduceEqDiff, Nat.reduceSub, ↓hg7]
    refine hK _ _ ?_; clear hK hgd; clear K; try clear gd
    exact ⟨rfl, rfl, (vq1 h3), (vq1 h0), hA2.trans hA3, _, vr0, fun h => ⟨rfl, hb (by simpa using h)⟩⟩
  clear h3 h0
  rintro _ σ1 _ A1 ⟨rfl, rfl, h3, h0, hA1, bb, h28, hbb⟩
  repeat refine c_r ?_
  refine W_cond (t := bb) ((vq1 h28)) ?_ ?_
  ·intro _
   repeat (first | refine c_r ?_ | refine rg0 ?_)
   refine rt0 Tryz.ntmps121 ?_
   exact ⟨hEA.trans hA1, false, rfl, fun h => by cases h⟩
  ·intro ht
   repeat refine c_r ?_
   refine rg2 h3 hi1' ?_
   repeat refine c_r ?_
   refine ⟨m - 1, by omega, rfl, i + 1, by omega, vq0, (vq1 h0), hEA.trans hA1, fun j hj hji => ?_⟩
   by_cases hj2 : j = i
   ·subst hj2; rw [hr]; exact hbb ht
   ·exact hlow j hj (by omega)
 ·intro hge
  simp only [decide_eq_false_iff_not] at hge
  repeat (first | refine c_r ?_ | refine rg0 ?_)
  refine rt0 Tryz.ntmps121 ?_
  refine ⟨hEA, true, rfl, fun _ => ⟨by omega, fun r hr => ?_⟩⟩
  obtain ⟨j, hj, rfl⟩ := List.getElem_of_mem hr
  exact hlow j hj (by omega)

structure GoodRs (R : List RecL) : Prop where
 len : R.length ≤ 60
 few : ∀ r ∈ R, few r.owner = true ∧ DatF r.dat
 own : ∀ r ∈ R, checkN r.owner = 0
 names : ∀ r ∈ R, ∀ n ∈ r.dat.names, checkN n = 0
 lead : ∀ r ∈ R, leadT r.dat.ty → r.dat.names.length = 1

set_option maxHeartbeats 1000000 in
theorem RsGood_ok {w0 w : World} (hE0 : Ext w0 w) {lv : Value} {R : List RecL} (hl : Rows 7 (RecAt w0) w lv R) :
  Fn Tryz.prog 55 #[lv] w (fun v w' => Ext w w' ∧ ∃ b : Bool, v = .bool b ∧ (b = true → GoodRs R)) := by
 obtain ⟨aR, cR, rfl, hcR, hgR⟩ := hl.open
 refine enter Tryz.func55 Tryz.ntmps55 rfl rfl ?_
 repeat refine c_r ?_
 refine rg0 ?_
 repeat refine c_r ?_
 refine rq ?_; intro gd K hgd hK
 try simp (disch := first | omega | assumption | rfl) only [↓reduceIte, go_sem, Nat.reduceLT, Nat.reduceEqDiff, Nat.reduceSub]
 refine Fn.mono (RsFew_ok hE0 hl) ?_
 rintro _ w1 ⟨hE1, b, rfl, hb⟩
 try simp (disch := first | omega | assumption | rfl) only [↓reduceIte, go_sem, Nat.reduceLT, Nat.reduceEqDiff, Nat.reduceSub]
 refine hK _ _ ?_; clear hK hgd; clear K; try clear gd
 repeat refine c_r ?_
 refine W_cond (t := !b) (vr0) ?_ ?_
 ·intro _
  repeat (first | refine c_r ?_ | refine rg0 ?_)
  refine rt0 Tryz.ntmps55 ?_
  exact ⟨hE1, false, rfl, fun h => by cases h⟩
 intro hb2
 obtain ⟨hRl, hRf⟩ := hb (by simpa using hb2)
 repeat refine c_r ?_
 refine rg0 ?_
 repeat refine c_r ?_
 refine W_loop (fun m σ ds A => ds = [] ∧ ∃ (i : Nat), i + m = R.length ∧ σ 3 = vi i ∧ σ 0 = .slice aR R.length cR ∧ Ext w A ∧ ∀ j (h : j < R.length), j < i → checkN R[j].owner = 0 ∧ (∀ n ∈ R[j].dat.names, checkN n = 0) ∧ (leadT R[j].dat.ty → R[j].dat.names.length = 1)) R.length ?_ ?_
 ·exact ⟨rfl, 0, by omega, vr0, vq0, hE1, fun j h hj => absurd hj (by omega)⟩
 rintro m σ ds A ⟨rfl, i, him, h3, h0, hEA, hlow⟩
 repeat refine c_r ?_
 refine rg2 h3 h0 ?_
 repeat refine c_r ?_
 refine wc0 ?_ ?_
 ·intro hlt
  simp only [decide_eq_true_eq] at hlt
  have hi : i < R.length := by omega
  have hi0 : (0 : Int) ≤ (i : Int) := by omega
  have hi1 : (i : Int) < (R.length : Int) := by omega
  have hi1' : (i : Int) + 1 = ((i + 1 : Nat) : Int) := by push_cast; rfl
  obtain ⟨cr, hcr, hRr⟩ := hgR i hi
  obtain ⟨r, hr⟩ : ∃ r, R[i] = r := ⟨_, rfl⟩
  rw [hr] at hRr
  obtain ⟨f1, f2⟩ := hRf r (hr ▸ List.getElem_mem hi)
  obtain ⟨xR, rfl⟩ := Option.isSome_iff_exists.1 (cellsO_some hcr)
  obtain ⟨xi, hxi⟩ : ∃ xi, adr (some xR) (i * 7) = some xi := ⟨_, rfl⟩
  rw [hxi] at hcr
  have hcA := cellsO_ext hEA hcr
  have hwA := hE0.trans hEA
  repeat refine c_r ?_
  refine rq ?_; intro gd K hgd hK
  try simp (disch := first | omega | assumption | rfl) only [↓reduceIte, go_sem, Nat.reduceLT, Nat.reduceEqDiff, Nat.reduceSub, h0, h3, hi0, hi1, hxi, hcA]
  refine Fn.mono (RcOf_ok hwA hRr f2.nn) ?_
  rintro _ A2 ⟨hA2, cs', nm', rfl, hx⟩
  try simp (disch := first | omega | assumption | rfl) only [↓reduceIte, go_sem, Nat.reduceLT, Nat.reduceEqDiff, Nat.reduceSub]
  refine Fn.mono (RCheckRec_ok (Keep.refl _ A2) (hx.at (hwA.trans hA2)) f2 (few_f f1)) ?_
  rintro _ A3 ⟨hA3, e, rfl, he⟩
  try simp (disch := first | omega | assumption | rfl) only [↓reduceIte, go_sem, Nat.reduceLT, Nat.reduceEqDiff, Nat.reduceSub]
  refine hK _ _ ?_; clear hK hgd; clear K; try clear gd
  repeat refine c_r ?_
  by_cases h0e : e = 0
  ·refine W_cond (t := !decide (e = 0)) (vr0) (fun h => by rw [decide_eq_true h0e] at h; cases h) ?_
   intro _
   repeat refine c_r ?_
   refine rg2 h3 hi1' ?_
   repeat refine c_r ?_
   refine ⟨m - 1, by omega, rfl, i + 1, by omega, vq0, (vq1 h0), hEA.trans (hA2.trans hA3), fun j hj hji => ?_⟩
   by_cases hj2 : j = i
   ·subst hj2; rw [hr]; exact he h0e
   ·exact hlow j hj (by omega)
  ·refine W_cond (t := !decide (e = 0)) (vr0) ?_ (fun h => by rw [decide_eq_false h0e] at h; cases h)
   intro _
   repeat (first | refine c_r ?_ | refine rg0 ?_)
   refine rt0 Tryz.ntmps55 ?_
   exact ⟨hEA.trans (hA2.trans hA3), false, rfl, fun h => by cases h⟩
 ·intro hge
  simp only [decide_eq_false_iff_not] at hge
  repeat (first | refine c_r ?_ | refine rg0 ?_)
  refine rt0 Tryz.ntmps55 ?_
  have hall : ∀ r ∈ R, checkN r.owner = 0 ∧ (∀ n ∈ r.dat.names, checkN n = 0) ∧ (leadT r.dat.ty → r.dat.names.length = 1) := fun r hr => by
   obtain ⟨j, hj, rfl⟩ := List.getElem_of_mem hr
   exact hlow j hj (by omega)
  exact ⟨hEA, true, rfl, fun _ => ⟨hRl, hRf, fun r hr => (hall r hr).1, fun r hr => (hall r hr).2.1, fun r hr => (hall r hr).2.2⟩⟩

theorem ZGood_ok {w0 w : World} (hE0 : Ext w0 w) {ov lv : Value} {o : Nm} {R : List RecL} (ho : Row w ov (o.map vs)) (hl : Rows 7 (RecAt w0) w lv R) :
  Fn Tryz.prog 16 #[ov, lv] w (fun v w' => Ext w w' ∧ ∃ b : Bool, v = .bool b ∧ (b = true → goodN o = true ∧ GoodRs R)) := by
 refine enter Tryz.func16 Tryz.ntmps16 rfl rfl ?_
 repeat refine c_r ?_
 refine rg0 ?_
 repeat refine c_r ?_
 cases hg : goodN o with
 | false =>
  refine rq ?_; intro gd K hgd hK
  have hg2 : ∀ n σ b, wantV gd n σ (some (2, b)) = boolIs (ev n σ (.tmp 7)) b := (fun n σ b => by rw [wantV_some, show gd 2 = some 7 from (by rw [hgd]; rfl)]; rfl)
  try simp (disch := first | omega | assumption | rfl) only [↓reduceIte, go_sem, Nat.reduceLT, Nat.reduceEqDiff, Nat.reduceSub]
  refine Fn.mono (NGood_ok w ov o ho) ?_
  rintro _ w1 ⟨rfl, hE1⟩
  rw [hg]
  try simp (disch := first | omega | assumption | rfl) only [↓reduceIte, go_sem, Nat.reduceLT, Nat.reduceEqDiff, Nat.reduceSub, ↓hg2]
  refine hK _ _ ?_; clear hK hgd; clear K; try clear gd
  repeat refine c_r ?_
  refine rt0 Tryz.ntmps16 ?_
  exact ⟨hE1, false, rfl, fun h => by cases h⟩
 | true =>
  refine rq ?_; intro gd K hgd hK
  have hg2 : ∀ n σ b, wantV gd n σ (some (2, b)) = boolIs (ev n σ (.tmp 7)) b := (fun n σ b => by rw [wantV_some, show gd 2 = some 7 from (by rw [hgd]; rfl)]; rfl)
  try simp (disch := first | omega | assumption | rfl) only [↓reduceIte, go_sem, Nat.reduceLT, Nat.reduceEqDiff, Nat.reduceSub]
  refine Fn.mono (NGood_ok w ov o ho) ?_
  rintro _ w1 ⟨rfl, hE1⟩
  rw [hg]
  try simp (disch := first | omega | assumption | rfl) only [↓reduceIte, go_sem, Nat.reduceLT, Nat.reduceEqDiff, Nat.reduceSub, ↓hg2]
  refine Fn.mono (RsGood_ok (hE0.trans hE1) (hl.ext hE1)) ?_
  rintro _ w2 ⟨hE2, b, rfl, hb⟩
  try simp (disch := first | omega | assumption | rfl) only [↓reduceIte, go_sem, Nat.reduceLT, Nat.reduceEqDiff, Nat.reduceSub, ↓hg2]
  refine hK _ _ ?_; clear hK hgd; clear K; try clear gd
  repeat refine c_r ?_
  refine rt0 Tryz.ntmps16 ?_
  exact ⟨hE1.trans hE2, b, rfl, fun h => ⟨rfl, hb h⟩⟩
end Go.Proofs.YtopbbjdembnfdaaGreat

namespace Go.Proofs.YtopbbjdembnfdaaGreat
open Go

def eqAll {α : Type} (p : α → α → Bool) : List α → List α → Bool
 | [], [] => true
 | x :: l, y :: m => p x y && eqAll p l m
 | _, _ => false
theorem eqAll_len {α : Type} {p : α → α → Bool} : ∀ {l m : List α}, l.length ≠ m.length → eqAll p l m = false
 | [], [], h => absurd rfl h
 | [], _ :: _, _ => rfl
 | _ :: _, [], _ => rfl
 | x :: l, y :: m, h => by
  simp only [eqAll]
  rw [eqAll_len (fun e => h (by rw [List.length_cons, List.length_cons, e])), Bool.and_false]
theorem eqAll_drop {α : Type} {p : α → α → Bool} {l m : List α} {i : Nat} (hl : i < l.length) (hm : i < m.length) : eqAll p (l.drop i) (m.drop i) = (p l[i] m[i] && eqAll p (l.drop (i + 1)) (m.drop (i + 1))) := by
 rw [List.drop_eq_getElem_cons hl, List.drop_eq_getElem_cons hm]; rfl
theorem eqAll_self {α : Type} {p : α → α → Bool} (h : ∀ x, p x x = true) : ∀ l : List α, eqAll p l l = true
 | [] => rfl
 | x :: l => by simp only [eqAll]; rw [h x, eqAll_self h l]; rfl
end Go.Proofs.YtopbbjdembnfdaaGreat

namespace Go.Proofs.YtopbbjdembnfdaaGreat.P_ed
open Go Go.Proofs.YtopbbjdembnfdaaGreat
set_option maxRecDepth 10000

theorem EqualFunc_ok {α : Type} {w : World} {C D : List Value → α → Prop} {uv vv : Value} {xs ys : List α} {g : FuncId} {p : α → α → Bool} (hC : Shape 5 C) (hD : Shape 5 D) (hx : Rows 5 C w uv xs) (hy : Rows 5 D w vv ys) (hcal : callable Tryz.prog g = true)
  (hcall : ∀ (A : World) (cs ds : List Value) (x y : α), Ext w A → x ∈ xs → y ∈ ys → C cs x → D ds y → Fn Tryz.prog g #[.agg cs.toArray, .agg ds.toArray] A (fun v A' => v = .bool (p x y) ∧ Ext A A')) (hxl : xs.length ≤ 1000000000) (hyl : ys.length ≤ 1000000000) :
  Fn Tryz.prog 79 #[uv, vv, .func (.func g) #[] #[]] w (fun v w' => v = .bool (eqAll p xs ys) ∧ Ext w w') := by
 obtain ⟨ax, cx, rfl, hcx, hgx⟩ := hx.open
 obtain ⟨ay, cy, rfl, hcy, hgy⟩ := hy.open
 refine enter Tryz.func79 Tryz.ntmps79 rfl rfl ?_
 repeat refine c_r ?_
 refine rg0 ?_
 repeat refine c_r ?_
 refine rg0 ?_
 repeat refine c_r ?_
 refine wc0 ?_ ?_
 ·intro hne
  simp only [Bool.not_eq_true', decide_eq_false_iff_not] at hne
  repeat (first | refine c_r ?_ | refine rg0 ?_)
  refine rt0 Tryz.ntmps79 ?_
  exact ⟨by rw [eqAll_len (by omega)], Keep.refl _ _⟩
 intro heq
 simp only [Bool.not_eq_false', decide_eq_true_eq] at heq
 have hlen : xs.length = ys.length := by omega
 repeat refine c_r ?_
 refine rg0 ?_
 repeat refine c_r ?_
 refine W_loop (fun m σ ds A => ds = [] ∧ ∃ (i : Nat), i + m = xs.length ∧ σ 17 = vi i ∧ σ 16 = vi xs.length ∧ σ 15 = .slice ax xs.length cx ∧ σ 1 = .slice ay ys.length cy ∧ σ 2 = .func (.func g) #[] #[] ∧ Ext w A ∧ eqAll p xs ys = eqAll p (xs.drop i) (ys.drop i)) xs.length ?_ ?_
 ·exact ⟨rfl, 0, by omega, vr0, vr0, vq0, vq0, vq0, Keep.refl _ _, rfl⟩
 rintro m σ ds A ⟨rfl, i, him, h17, h16, h15, h1, h2, hEA, hinv⟩
 repeat refine c_r ?_
 refine rg2 h17 h16 ?_
 repeat refine c_r ?_
 refine wc0 ?_ ?_
 ·intro hlt
  simp only [decide_eq_true_eq] at hlt
  have hix : i < xs.length := by omega
  have hiy : i < ys.length := by omega
  have hi0 : (0 : Int) ≤ (i : Int) := by omega
  have hi1 : (i : Int) < (xs.length : Int) := by omega
  have hi2 : (i : Int) < (ys.length : Int) := by omega
  have hi1' : (i : Int) + 1 = ((i + 1 : Nat) : Int) := by push_cast; rfl
  obtain ⟨cs, hcs, hCx⟩ := hgx i hix
  obtain ⟨es, hes, hDy⟩ := hgy i hiy
  obtain ⟨zx, rfl⟩ := Option.isSome_iff_exists.1 (cellsO_some hcs)
  obtain ⟨zy, rfl⟩ := Option.isSome_iff_exists.1 (cellsO_some hes)
  have d1 := cellsO_ext hEA hcs
  repeat refine c_r ?_
  refine rq ?_; intro gd K hgd hK
  try simp (disch := first | omega | assumption | rfl) only [↓reduceIte, go_sem, Nat.reduceLT, Nat.reduceEqDiff, Nat.reduceSub, h15, h17, hi0, hi1, d1]
  refine sv_all (P := Tryz.prog) (t := 59) (l := cs) (new_block A _) (hC.len hCx) (hC.ones hCx) (by rw [hC.len hCx]; rfl) rfl ?_
  intro A3 hs5 hB5 hk5
  try simp (disch := first | omega | assumption | rfl) only [↓reduceIte, go_sem, Nat.reduceLT, Nat.reduceEqDiff, Nat.reduceSub]
  refine hK _ _ ?_; clear hK hgd; clear K; try clear gd
  rw [new_size] at hs5
  have hE5 : Ext A A3 := Keep.to_ext (Ext.alloc A _) rfl (fun b hb => by omega) hk5
  clear hk5
  have d2 := cellsO_ext (hEA.trans hE5) hes
  repeat refine c_r ?_
  refine rq ?_; intro gd K hgd hK
  try simp (disch := first | omega | assumption | rfl) only [↓reduceIte, go_sem, Nat.reduceLT, Nat.reduceEqDiff, Nat.reduceSub, h1, hi0, hi2, d2]
  refine sv_all (P := Tryz.prog) (t := 59) (l := es) (new_block A3 _) (hD.len hDy) (hD.ones hDy) (by rw [hD.len hDy]; rfl) rfl ?_
  intro A4 hs6 hB6 hk6
  try simp (disch := first | omega | assumption | rfl) only [↓reduceIte, go_sem, Nat.reduceLT, Nat.reduceEqDiff, Nat.reduceSub]
  refine hK _ _ ?_; clear hK hgd; clear K; try clear gd
  rw [new_size] at hs6
  have hE6 : Ext A3 A4 := Keep.to_ext (Ext.alloc A3 _) rfl (fun b hb => by omega) hk6
  clear hk6
  have q1 := sv_cells (n := 5) (hE6.at hB5) (hC.len hCx).symm
  have q2 := sv_cells (n := 5) hB6 (hD.len hDy).symm
  have hst := eqAll_drop (p := p) hix hiy
  repeat refine c_r ?_
  refine rq ?_; intro gd K hgd hK
  try simp (disch := first | omega | assumption | rfl) only [↓reduceIte, go_sem, Nat.reduceLT, Nat.reduceEqDiff, Nat.reduceSub, h2, q1, q2]
  refine call_of hcal (Fn.mono (hcall A4 cs es xs[i] ys[i] ((hEA.trans hE5).trans hE6) (List.getElem_mem hix) (List.getElem_mem hiy) hCx hDy) ?_)
  rintro _ A5 ⟨rfl, hE7⟩
  try simp (disch := first | omega | assumption | rfl) only [↓reduceIte, go_sem, Nat.reduceLT, Nat.reduceEqDiff, Nat.reduceSub]
  refine hK _ _ ?_; clear hK hgd; clear K; try clear gd
  repeat refine c_r ?_
  refine wc0 ?_ ?_
  ·intro hf
   simp only [Bool.not_eq_true'] at hf
   repeat (first | refine c_r ?_ | refine rg0 ?_)
   refine rt0 Tryz.ntmps79 ?_
   exact ⟨by rw [hinv, hst, hf, Bool.false_and], ((hEA.trans hE5).trans hE6).trans hE7⟩
  ·intro ht
   simp only [Bool.not_eq_false'] at ht
   repeat refine c_r ?_
   refine rg2 h17 hi1' ?_
   repeat refine c_r ?_
   exact ⟨m - 1, by omega, rfl, i + 1, by omega, vq0, (vq1 h16), (vq1 h15), (vq1 h1), (vq1 h2), ((hEA.trans hE5).trans hE6).trans hE7, by rw [hinv, hst, ht, Bool.true_and]⟩
 ·intro hge
  simp only [decide_eq_false_iff_not] at hge
  have e1 : xs.drop i = [] := List.drop_eq_nil_of_le (by omega)
  have e2 : ys.drop i = [] := List.drop_eq_nil_of_le (by omega)
  repeat (first | refine c_r ?_ | refine rg0 ?_)
  refine rt0 Tryz.ntmps79 ?_
  exact ⟨by rw [hinv, e1, e2]; rfl, hEA⟩
end Go.Proofs.YtopbbjdembnfdaaGreat.P_ed

namespace Go.Proofs.YtopbbjdembnfdaaGreat.P_eg
open Go Go.Proofs.YtopbbjdembnfdaaGreat
set_option maxRecDepth 10000

theorem EqualFunc_ok {α : Type} {w : World} {C D : List Value → α → Prop} {uv vv : Value} {xs ys : List α} {g : FuncId} {p : α → α → Bool} (hC : Shape 2 C) (hD : Shape 2 D) (hx : Rows 2 C w uv xs) (hy : Rows 2 D w vv ys) (hcal : callable Tryz.prog g = true)
  (hcall : ∀ (A : World) (cs ds : List Value) (x y : α), Ext w A → x ∈ xs → y ∈ ys → C cs x → D ds y → Fn Tryz.prog g #[.agg cs.toArray, .agg ds.toArray] A (fun v A' => v = .bool (p x y) ∧ Ext A A')) (hxl : xs.length ≤ 1000000000) (hyl : ys.length ≤ 1000000000) :
  Fn Tryz.prog 81 #[uv, vv, .func (.func g) #[] #[]] w (fun v w' => v = .bool (eqAll p xs ys) ∧ Ext w w') := by
 obtain ⟨ax, cx, rfl, hcx, hgx⟩ := hx.open
 obtain ⟨ay, cy, rfl, hcy, hgy⟩ := hy.open
 refine enter Tryz.func81 Tryz.ntmps81 rfl rfl ?_
 repeat refine c_r ?_
 refine rg0 ?_
 repeat refine c_r ?_
 refine rg0 ?_
 repeat refine c_r ?_
 refine wc0 ?_ ?_
 ·intro hne
  simp only [Bool.not_eq_true', decide_eq_false_iff_not] at hne
  repeat (first | refine c_r ?_ | refine rg0 ?_)
  refine rt0 Tryz.ntmps81 ?_
  exact ⟨by rw [eqAll_len (by omega)], Keep.refl _ _⟩
 intro heq
 simp only [Bool.not_eq_false', decide_eq_true_eq] at heq
 have hlen : xs.length = ys.length := by omega
 repeat refine c_r ?_
 refine rg0 ?_
 repeat refine c_r ?_
 refine W_loop (fun m σ ds A => ds = [] ∧ ∃ (i : Nat), i + m = xs.length ∧ σ 17 = vi i ∧ σ 16 = vi xs.length ∧ σ 15 = .slice ax xs.length cx ∧ σ 1 = .slice ay ys.length cy ∧ σ 2 = .func (.func g) #[] #[] ∧ Ext w A ∧ eqAll p xs ys = eqAll p (xs.drop i) (ys.drop i)) xs.length ?_ ?_
 ·exact ⟨rfl, 0, by omega, vr0, vr0, vq0, vq0, vq0, Keep.refl _ _, rfl⟩
 rintro m σ ds A ⟨rfl, i, him, h17, h16, h15, h1, h2, hEA, hinv⟩
 repeat refine c_r ?_
 refine rg2 h17 h16 ?_
 repeat refine c_r ?_
 refine wc0 ?_ ?_
 ·intro hlt
  simp only [decide_eq_true_eq] at hlt
  have hix : i < xs.length := by omega
  have hiy : i < ys.length := by omega
  have hi0 : (0 : Int) ≤ (i : Int) := by omega
  have hi1 : (i : Int) < (xs.length : Int) := by omega
  have hi2 : (i : Int) < (ys.length : Int) := by omega
  have hi1' : (i : Int) + 1 = ((i + 1 : Nat) : Int) := by push_cast; rfl
  obtain ⟨cs, hcs, hCx⟩ := hgx i hix
  obtain ⟨es, hes, hDy⟩ := hgy i hiy
  obtain ⟨zx, rfl⟩ := Option.isSome_iff_exists.1 (cellsO_some hcs)
  obtain ⟨zy, rfl⟩ := Option.isSome_iff_exists.1 (cellsO_some hes)
  have d1 := cellsO_ext hEA hcs
  repeat refine c_r ?_
  refine rq ?_; intro gd K hgd hK
  try simp (disch := first | omega | assumption | rfl) only [↓reduceIte, go_sem, Nat.reduceLT, Nat.reduceEqDiff, Nat.reduceSub, h15, h17, hi0, hi1, d1]
  refine sv_all (P := Tryz.prog) (t := 112) (l := cs) (new_block A _) (hC.len hCx) (hC.ones hCx) (by rw [hC.len hCx]; rfl) rfl ?_
  intro A3 hs5 hB5 hk5
  try simp (disch := first | omega | assumption | rfl) only [↓reduceIte, go_sem, Nat.reduceLT, Nat.reduceEqDiff, Nat.reduceSub]
  refine hK _ _ ?_; clear hK hgd; clear K; try clear gd
  rw [new_size] at hs5
  have hE5 : Ext A A3 := Keep.to_ext (Ext.alloc A _) rfl (fun b hb => by omega) hk5
  clear hk5
  have d2 := cellsO_ext (hEA.trans hE5) hes
  repeat refine c_r ?_
  refine rq ?_; intro gd K hgd hK
  try simp (disch := first | omega | assumption | rfl) only [↓reduceIte, go_sem, Nat.reduceLT, Nat.reduceEqDiff, Nat.reduceSub, h1, hi0, hi2, d2]
  refine sv_all (P := Tryz.prog) (t := 112) (l := es) (new_block A3 _) (hD.len hDy) (hD.ones hDy) (by rw [hD.len hDy]; rfl) rfl ?_
  intro A4 hs6 hB6 hk6
  try simp (disch := first | omega | assumption | rfl) only [↓reduceIte, go_sem, Nat.reduceLT, Nat.reduceEqDiff, Nat.reduceSub]
  refine hK _ _ ?_; clear hK hgd; clear K; try clear gd
  rw [new_size] at hs6
  have hE6 : Ext A3 A4 := Keep.to_ext (Ext.alloc A3 _) rfl (fun b hb => by omega) hk6
  clear hk6
  have q1 := sv_cells (n := 2) (hE6.at hB5) (hC.len hCx).symm
  have q2 := sv_cells (n := 2) hB6 (hD.len hDy).symm
  have hst := eqAll_drop (p := p) hix hiy
  repeat refine c_r ?_
  refine rq ?_; intro gd K hgd hK
  try simp (disch := first | omega | assumption | rfl) only [↓reduceIte, go_sem, Nat.reduceLT, Nat.reduceEqDiff, Nat.reduceSub, h2, q1, q2]
  refine call_of hcal (Fn.mono (hcall A4 cs es xs[i] ys[i] ((hEA.trans hE5).trans hE6) (List.getElem_mem hix) (List.getElem_mem hiy) hCx hDy) ?_)
  rintro _ A5 ⟨rfl, hE7⟩
  try simp (disch := first | omega | assumption | rfl) only [↓reduceIte, go_sem, Nat.reduceLT, Nat.reduceEqDiff, Nat.reduceSub]
  refine hK _ _ ?_; clear hK hgd; clear K; try clear gd
  repeat refine c_r ?_
  refine wc0 ?_ ?_
  ·intro hf
   simp only [Bool.not_eq_true'] at hf
   repeat (first | refine c_r ?_ | refine rg0 ?_)
   refine rt0 Tryz.ntmps81 ?_
   exact ⟨by rw [hinv, hst, hf, Bool.false_and], ((hEA.trans hE5).trans hE6).trans hE7⟩
  ·intro ht
   simp only [Bool.not_eq_false'] at ht
   repeat refine c_r ?_
   refine rg2 h17 hi1' ?_
   repeat refine c_r ?_
   exact ⟨m - 1, by omega, rfl, i + 1, by omega, vq0, (vq1 h16), (vq1 h15), (vq1 h1), (vq1 h2), ((hEA.trans hE5).trans hE6).trans hE7, by rw [hinv, hst, ht, Bool.true_and]⟩
 ·intro hge
  simp only [decide_eq_false_iff_not] at hge
  have e1 : xs.drop i = [] := List.drop_eq_nil_of_le (by omega)
  have e2 : ys.drop i = [] := List.drop_eq_nil_of_le (by omega)
  repeat (first | refine c_r ?_ | refine rg0 ?_)
  refine rt0 Tryz.ntmps81 ?_
  exact ⟨by rw [hinv, e1, e2]; rfl, hEA⟩
end Go.Proofs.YtopbbjdembnfdaaGreat.P_eg

namespace Go.Proofs.YtopbbjdembnfdaaGreat
open Go
set_option maxRecDepth 10000

def sameD (a b : DatL) : Bool := decide (cmpD a b = 0)
def sameG (x y : Nm × List DatL) : Bool := decide (foldN x.1 = foldN y.1) && eqAll sameD x.2 y.2
def sameRes (a b : ResL) : Bool := decide (a.kind = b.kind) && (a.wild == b.wild && (decide (foldN a.name = foldN b.name) && (eqAll sameD a.data b.data && eqAll sameG a.glue b.glue)))
structure ResOk (r : ResL) : Prop where
 nm : NmS r.name
 dat : ∀ d ∈ r.data, DatOk d
 dl : r.data.length ≤ 1000000000
 gl : r.glue.length ≤ 1000000000
 g : ∀ x ∈ r.glue, NmS x.1 ∧ (∀ d ∈ x.2, DatOk d) ∧ x.2.length ≤ 1000000000

theorem GlC.cells {w0 w : World} {cs : List Value} {x : Nm × List DatL} (h : GlC w0 w cs x) : cs.length = 2 ∧ ∀ q ∈ cs, one q = true := by
 obtain ⟨hv, dv, rfl, ⟨a, c, rfl, _⟩, h2⟩ := h
 obtain ⟨a2, c2, rfl, _⟩ := h2.open
 refine ⟨rfl, fun q hq => ?_⟩
 simp at hq
 rcases hq with rfl | rfl <;> rfl
theorem glc_shape (w0 w : World) : Shape 2 (GlC w0 w) := ⟨fun h => h.cells.1, fun h => h.cells.2⟩

theorem SameDs_ok {w0 w : World} (hE0 : Ext w0 w) {uv vv : Value} {xs ys : List DatL} (hx : Rows 5 (DatAt w0) w uv xs) (hy : Rows 5 (DatAt w0) w vv ys) (hxo : ∀ d ∈ xs, DatOk d) (hyo : ∀ d ∈ ys, DatOk d) (hxl : xs.length ≤ 1000000000) (hyl : ys.length ≤ 1000000000) :
  Fn Tryz.prog 79 #[uv, vv, .func (.func 80) #[] #[]] w (fun v w' => v = .bool (eqAll sameD xs ys) ∧ Ext w w') :=
 P_ed.EqualFunc_ok (dat_shape w0) (dat_shape w0) hx hy rfl (fun A cs ds x y hE hxm hym hc hd => DSame_ok A cs ds x y (hc.ext (hE0.trans hE)) (hd.ext (hE0.trans hE)) (hxo x hxm) (hyo y hym)) hxl hyl

theorem SameG_ok {w0 A0 : World} (hE0 : Ext w0 A0) (A : World) (hEA : Ext A0 A) {cs ds : List Value} {x y : Nm × List DatL} (hc : GlC w0 A0 cs x) (hd : GlC w0 A0 ds y) (hx : NmS x.1 ∧ (∀ d ∈ x.2, DatOk d) ∧ x.2.length ≤ 1000000000) (hy : NmS y.1 ∧ (∀ d ∈ y.2, DatOk d) ∧ y.2.length ≤ 1000000000) :
  Fn Tryz.prog 82 #[.agg cs.toArray, .agg ds.toArray] A (fun v A' => v = .bool (sameG x y) ∧ Ext A A') := by
 obtain ⟨hv, dv, rfl, h1, h2⟩ := hc
 obtain ⟨hv2, dv2, rfl, g1, g2⟩ := hd
 refine enter Tryz.func82 Tryz.ntmps82 rfl rfl ?_
 repeat refine c_r ?_
 refine rg0 ?_
 repeat refine c_r ?_
 rw [new_size]
 refine W_alloc2 ?_
 intro w1 hE1 hs1 hA hB
 have p0 : cellO w1 (some ⟨A.heap.size, 0, Option.none⟩) = some hv := cellO_at hA rfl
 have p1 : cellO w1 (some ⟨A.heap.size, 1, Option.none⟩) = some dv := cellO_at hA rfl
 have q0 : cellO w1 (some ⟨A.heap.size + 1, 0, Option.none⟩) = some hv2 := cellO_at hB rfl
 have q1 : cellO w1 (some ⟨A.heap.size + 1, 1, Option.none⟩) = some dv2 := cellO_at hB rfl
 have hEw := (hE0.trans hEA).trans hE1
 have lx := hx.1.len
 have ly := hy.1.len
 refine rq ?_; intro gd K hgd hK
 have hg5 : ∀ n σ b, wantV gd n σ (some (5, b)) = boolIs (ev n σ (.tmp 10)) b := (fun n σ b => by rw [wantV_some, show gd 5 = some 10 from (by rw [hgd]; rfl)]; rfl)
 try simp (disch := first | omega | assumption | rfl) only [↓reduceIte, go_sem, Nat.reduceLT, Nat.reduceEqDiff, Nat.reduceSub, p0, q0, Nat.add_zero]
 refine Fn.mono (Same_ok _ _ _ _ _ (h1.ext hEw) (g1.ext hEw) hx.1.lb hy.1.lb (by omega) (by omega)) ?_
 rintro _ w2 ⟨rfl, hE2⟩
 have p1' := cellO_ext hE2 p1
 have q1' := cellO_ext hE2 q1
 by_cases hs : foldN x.1 = foldN y.1
 ·rw [decide_eq_true hs]
  try simp (disch := first | omega | assumption | rfl) only [↓reduceIte, go_sem, Nat.reduceLT, Nat.reduceEqDiff, Nat.reduceSub, p1', q1', Nat.zero_add, ↓hg5]
  refine Fn.mono (SameDs_ok (hEw.trans hE2) (h2.ext ((hEA.trans hE1).trans hE2)) (g2.ext ((hEA.trans hE1).trans hE2)) hx.2.1 hy.2.1 hx.2.2 hy.2.2) ?_
  rintro _ w3 ⟨rfl, hE3⟩
  try simp (disch := first | omega | assumption | rfl) only [↓reduceIte, go_sem, Nat.reduceLT, Nat.reduceEqDiff, Nat.reduceSub]
  refine hK _ _ ?_; clear hK hgd; clear K; try clear gd
  repeat refine c_r ?_
  refine rt0 Tryz.ntmps82 ?_
  exact ⟨by unfold sameG; rw [decide_eq_true hs, Bool.true_and], (hE1.trans hE2).trans hE3⟩
 ·rw [decide_eq_false hs]
  try simp (disch := first | omega | assumption | rfl) only [↓reduceIte, go_sem, Nat.reduceLT, Nat.reduceEqDiff, Nat.reduceSub, ↓hg5]
  refine hK _ _ ?_; clear hK hgd; clear K; try clear gd
  repeat refine c_r ?_
  refine rt0 Tryz.ntmps82 ?_
  exact ⟨by unfold sameG; rw [decide_eq_false hs, Bool.false_and], hE1.trans hE2⟩

theorem SameGs_ok {w0 w : World} (hE0 : Ext w0 w) {uv vv : Value} {xs ys : List (Nm × List DatL)} (hx : Rows 2 (GlC w0 w) w uv xs) (hy : Rows 2 (GlC w0 w) w vv ys) (hxo : ∀ x ∈ xs, NmS x.1 ∧ (∀ d ∈ x.2, DatOk d) ∧ x.2.length ≤ 1000000000) (hyo : ∀ x ∈ ys, NmS x.1 ∧ (∀ d ∈ x.2, DatOk d) ∧ x.2.length ≤ 1000000000) (hxl : xs.length ≤ 1000000000) (hyl : ys.length ≤ 1000000000) :
  Fn Tryz.prog 81 #[uv, vv, .func (.func 82) #[] #[]] w (fun v w' => v = .bool (eqAll sameG xs ys) ∧ Ext w w') :=
 P_eg.EqualFunc_ok (glc_shape w0 w) (glc_shape w0 w) hx hy rfl (fun A cs ds x y hE hxm hym hc hd => SameG_ok hE0 A hE hc hd (hxo x hxm) (hyo y hym)) hxl hyl

theorem LkSame_ok {w0 w : World} (hE0 : Ext w0 w) {ca cb : List Value} {a b : ResL} (ha : ResAt w0 w ca a) (hb : ResAt w0 w cb b) (oa : ResOk a) (ob : ResOk b) :
  Fn Tryz.prog 25 #[.agg ca.toArray, .agg cb.toArray] w (fun v w' => v = .bool (sameRes a b) ∧ Ext w w') := by
 obtain ⟨dv, nv, gv, rfl, a1, a2, a3⟩ := ha.ex
 obtain ⟨dv2, nv2, gv2, rfl, b1, b2, b3⟩ := hb.ex
 refine enter Tryz.func25 Tryz.ntmps25 rfl rfl ?_
 repeat refine c_r ?_
 refine rg0 ?_
 repeat refine c_r ?_
 rw [new_size]
 refine W_alloc2 ?_
 intro w1 hE1 hs1 hA hB
 have p0 : cellO w1 (some ⟨w.heap.size, 0, Option.none⟩) = some (vi a.kind) := cellO_at hA rfl
 have p3 : cellO w1 (some ⟨w.heap.size, 3, Option.none⟩) = some (.bool a.wild) := cellO_at hA rfl
 have p2 : cellO w1 (some ⟨w.heap.size, 2, Option.none⟩) = some nv := cellO_at hA rfl
 have q0 : cellO w1 (some ⟨w.heap.size + 1, 0, Option.none⟩) = some (vi b.kind) := cellO_at hB rfl
 have q3 : cellO w1 (some ⟨w.heap.size + 1, 3, Option.none⟩) = some (.bool b.wild) := cellO_at hB rfl
 have q2 : cellO w1 (some ⟨w.heap.size + 1, 2, Option.none⟩) = some nv2 := cellO_at hB rfl
 have lx := oa.nm.len
 have ly := ob.nm.len
 by_cases hk : a.kind = b.kind
 ·by_cases hw : (a.wild == b.wild) = true
  ·refine rq ?_; intro gd K hgd hK
   have hg5 : ∀ n σ b, wantV gd n σ (some (5, b)) = boolIs (ev n σ (.tmp 10)) b := (fun n σ b => by rw [wantV_some, show gd 5 = some 10 from (by rw [hgd]; rfl)]; rfl); have hg12 : ∀ n σ b, wantV gd n σ (some (12, b)) = boolIs (ev n σ (.tmp 17)) b := (fun n σ b => by rw [wantV_some, show gd 12 = some 17 from (by rw [hgd]; rfl)]; rfl); have hg19 : ∀ n σ b, wantV gd n σ (some (19, b)) = boolIs (ev n σ (.tmp 24)) b := (fun n σ b => by rw [wantV_some, show gd 19 = some 24 from (by rw [hgd]; rfl)]; rfl); have hg26 : ∀ n σ b, wantV gd n σ (some (26, b)) = boolIs (ev n σ (.tmp 31)) b := (fun n σ b => by rw [wantV_some, show gd 26 = some 31 from (by rw [hgd]; rfl)]; rfl)
   try simp (disch := first | omega | assumption | rfl) only [↓reduceIte, go_sem, Nat.reduceLT, Nat.reduceEqDiff, Nat.reduceSub, p0, q0, p3, q3, p2, q2, Nat.add_zero, Nat.zero_add, decide_eq_true hk, hw, ↓hg5, ↓hg12, ↓hg19, ↓hg26]
   refine Fn.mono (Same_ok _ _ _ _ _ (a2.ext hE1) (b2.ext hE1) oa.nm.lb ob.nm.lb (by omega) (by omega)) ?_
   rintro _ w2 ⟨rfl, hE2⟩
   have hE12 := hE1.trans hE2
   have p1 : cellO w2 (some ⟨w.heap.size, 1, Option.none⟩) = some dv := cellO_at (hE2.at hA) rfl
   have q1 : cellO w2 (some ⟨w.heap.size + 1, 1, Option.none⟩) = some dv2 := cellO_at (hE2.at hB) rfl
   by_cases hn : foldN a.name = foldN b.name
   ·rw [decide_eq_true hn]
    try simp (disch := first | omega | assumption | rfl) only [↓reduceIte, go_sem, Nat.reduceLT, Nat.reduceEqDiff, Nat.reduceSub, p1, q1, Nat.zero_add, ↓hg5, ↓hg12, ↓hg19, ↓hg26]
    refine Fn.mono (SameDs_ok (hE0.trans hE12) (a1.ext hE12) (b1.ext hE12) oa.dat ob.dat oa.dl ob.dl) ?_
    rintro _ w3 ⟨rfl, hE3⟩
    have hE13 := hE12.trans hE3
    have p4 : cellO w3 (some ⟨w.heap.size, 4, Option.none⟩) = some gv := cellO_at (Ext.at (hE2.trans hE3) hA) rfl
    have q4 : cellO w3 (some ⟨w.heap.size + 1, 4, Option.none⟩) = some gv2 := cellO_at (Ext.at (hE2.trans hE3) hB) rfl
    by_cases hd : eqAll sameD a.data b.data = true
    ·rw [hd]
     try simp (disch := first | omega | assumption | rfl) only [↓reduceIte, go_sem, Nat.reduceLT, Nat.reduceEqDiff, Nat.reduceSub, p4, q4, Nat.zero_add, ↓hg5, ↓hg12, ↓hg19, ↓hg26]
     refine Fn.mono (SameGs_ok (w0 := w0) (hE0.trans hE13) ((a3.ext hE13).to fun cs x hx => ?_) ((b3.ext hE13).to fun cs x hx => ?_) oa.g ob.g oa.gl ob.gl) ?_
     ·obtain ⟨hv, dv, e, g1, g2⟩ := hx
      exact ⟨hv, dv, e, g1, g2.ext hE13⟩
     ·obtain ⟨hv, dv, e, g1, g2⟩ := hx
      exact ⟨hv, dv, e, g1, g2.ext hE13⟩
     rintro _ w4 ⟨rfl, hE4⟩
     try simp (disch := first | omega | assumption | rfl) only [↓reduceIte, go_sem, Nat.reduceLT, Nat.reduceEqDiff, Nat.reduceSub]
     refine hK _ _ ?_; clear hK hgd; clear K; try clear gd
     repeat refine c_r ?_
     refine rt0 Tryz.ntmps25 ?_
     exact ⟨by unfold sameRes; rw [decide_eq_true hk, hw, decide_eq_true hn, hd, Bool.true_and, Bool.true_and, Bool.true_and, Bool.true_and], hE13.trans hE4⟩
    ·have hd' : eqAll sameD a.data b.data = false := by simpa using hd
     rw [hd']
     try simp (disch := first | omega | assumption | rfl) only [↓reduceIte, go_sem, Nat.reduceLT, Nat.reduceEqDiff, Nat.reduceSub, ↓hg5, ↓hg12, ↓hg19, ↓hg26]
     refine hK _ _ ?_; clear hK hgd; clear K; try clear gd
     repeat refine c_r ?_
     refine rt0 Tryz.ntmps25 ?_
     exact ⟨by unfold sameRes; rw [decide_eq_true hk, hw, decide_eq_true hn, hd', Bool.true_and, Bool.true_and, Bool.true_and, Bool.false_and], hE13⟩
   ·rw [decide_eq_false hn]
    try simp (disch := first | omega | assumption | rfl) only [↓reduceIte, go_sem, Nat.reduceLT, Nat.reduceEqDiff, Nat.reduceSub, ↓hg5, ↓hg12, ↓hg19, ↓hg26]
    refine hK _ _ ?_; clear hK hgd; clear K; try clear gd
    repeat refine c_r ?_
    refine rt0 Tryz.ntmps25 ?_
    exact ⟨by unfold sameRes; rw [decide_eq_true hk, hw, decide_eq_false hn, Bool.true_and, Bool.true_and, Bool.false_and], hE12⟩
  ·have hw' : (a.wild == b.wild) = false := by simpa using hw
   refine rq ?_; intro gd K hgd hK
   have hg5 : ∀ n σ b, wantV gd n σ (some (5, b)) = boolIs (ev n σ (.tmp 10)) b := (fun n σ b => by rw [wantV_some, show gd 5 = some 10 from (by rw [hgd]; rfl)]; rfl); have hg12 : ∀ n σ b, wantV gd n σ (some (12, b)) = boolIs (ev n σ (.tmp 17)) b := (fun n σ b => by rw [wantV_some, show gd 12 = some 17 from (by rw [hgd]; rfl)]; rfl); have hg19 : ∀ n σ b, wantV gd n σ (some (19, b)) = boolIs (ev n σ (.tmp 24)) b := (fun n σ b => by rw [wantV_some, show gd 19 = some 24 from (by rw [hgd]; rfl)]; rfl); have hg26 : ∀ n σ b, wantV gd n σ (some (26, b)) = boolIs (ev n σ (.tmp 31)) b := (fun n σ b => by rw [wantV_some, show gd 26 = some 31 from (by rw [hgd]; rfl)]; rfl)
   try simp (disch := first | omega | assumption | rfl) only [↓reduceIte, go_sem, Nat.reduceLT, Nat.reduceEqDiff, Nat.reduceSub, p0, q0, p3, q3, Nat.add_zero, Nat.zero_add, decide_eq_true hk, hw', ↓hg5, ↓hg12, ↓hg19, ↓hg26]
   refine hK _ _ ?_; clear hK hgd; clear K; try clear gd
   repeat refine c_r ?_
   refine rt0 Tryz.ntmps25 ?_
   exact ⟨by unfold sameRes; rw [decide_eq_true hk, hw', Bool.true_and, Bool.false_and], hE1⟩
 ·refine rq ?_; intro gd K hgd hK
  have hg5 : ∀ n σ b, wantV gd n σ (some (5, b)) = boolIs (ev n σ (.tmp 10)) b := (fun n σ b => by rw [wantV_some, show gd 5 = some 10 from (by rw [hgd]; rfl)]; rfl); have hg12 : ∀ n σ b, wantV gd n σ (some (12, b)) = boolIs (ev n σ (.tmp 17)) b := (fun n σ b => by rw [wantV_some, show gd 12 = some 17 from (by rw [hgd]; rfl)]; rfl); have hg19 : ∀ n σ b, wantV gd n σ (some (19, b)) = boolIs (ev n σ (.tmp 24)) b := (fun n σ b => by rw [wantV_some, show gd 19 = some 24 from (by rw [hgd]; rfl)]; rfl); have hg26 : ∀ n σ b, wantV gd n σ (some (26, b)) = boolIs (ev n σ (.tmp 31)) b := (fun n σ b => by rw [wantV_some, show gd 26 = some 31 from (by rw [hgd]; rfl)]; rfl)
  try simp (disch := first | omega | assumption | rfl) only [↓reduceIte, go_sem, Nat.reduceLT, Nat.reduceEqDiff, Nat.reduceSub, p0, q0, Nat.add_zero, Nat.zero_add, decide_eq_false hk, ↓hg5, ↓hg12, ↓hg19, ↓hg26]
  refine hK _ _ ?_; clear hK hgd; clear K; try clear gd
  repeat refine c_r ?_
  refine rt0 Tryz.ntmps25 ?_
  exact ⟨by unfold sameRes; rw [decide_eq_false hk, Bool.false_and], hE1⟩
end Go.Proofs.YtopbbjdembnfdaaGreat

namespace Go.Proofs.YtopbbjdembnfdaaGreat
open Go
set_option maxRecDepth 10000

end Go.Proofs.YtopbbjdembnfdaaGreat

namespace Go.Proofs.YtopbbjdembnfdaaGreat
open Go
set_option maxRecDepth 10000

def Fr (A : World) (bad : Nat → Prop) (F : World → Prop) : Prop := ∀ x, Keep bad A x → F x
theorem Fr.step {A A' : World} {bad bad' : Nat → Prop} {F : World → Prop} (h : Fr A bad F) (hk : Keep bad A A') (hb : ∀ b, bad' b → b < A.heap.size → bad b) : Fr A' bad' F := fun x hx =>
 h x ⟨hx.os.trans hk.os, hx.tape.trans hk.tape, hx.output.trans hk.output, Nat.le_trans hk.size hx.size, fun b hbl hn => (hx.block b (Nat.lt_of_lt_of_le hbl hk.size) (fun h => hn (hb b h hbl))).trans (hk.block b hbl hn), Nat.le_trans hk.drawn hx.drawn⟩
theorem Fr.ext {A A' : World} {bad bad' : Nat → Prop} {F : World → Prop} (h : Fr A bad F) (hk : Ext A A') (hb : ∀ b, bad' b → b < A.heap.size → bad b) : Fr A' bad' F :=
 h.step (hk.mono fun _ _ h => h.elim) hb

theorem DatX.fr {w0 A : World} {B : Nat} {nm : Value} {cs : List Value} {d : DatL} (h : DatX w0 B A nm cs d) (hE : Ext w0 A) {bad : Nat → Prop} (h1 : ∀ b, bad b → b < B) (h2 : ∀ b, bad b → w0.heap.size ≤ b) : Fr A bad (fun x => DatAt x cs d) := fun x hx =>
 (h.keep hx (fun a n c hv hb => by have := (h.blk a n c hv).1; have := h1 _ hb; omega)).at (Keep.to_ext hE rfl h2 hx)

abbrev DX := DatL × List Value
def dxC (cs : List Value) (x : DX) : Prop := cs = x.2 ∧ cs.length = 5 ∧ ∀ q ∈ cs, one q = true
theorem DatX.cells {w0 A : World} {B : Nat} {nm : Value} {cs : List Value} {d : DatL} (h : DatX w0 B A nm cs d) : cs.length = 5 ∧ ∀ q ∈ cs, one q = true := by
 obtain ⟨b1, m1, e1, b2, m2, e2, b3, m3, e3, b4, m4, e4, hds⟩ := h.open
 rw [hds]
 refine ⟨rfl, fun q hq => ?_⟩
 simp at hq
 rcases hq with rfl | rfl | rfl | rfl | rfl <;> rfl
structure DI (B : Nat) (bad : Nat → Prop) (A : World) (dv : Value) (G : List DX) : Prop where
 own : Owns 5 dxC B A 132 dv G
 fr : ∀ y ∈ G, Fr A (fun b => some b = dv.ownBlock ∨ bad b) (fun x => DatAt x y.2 y.1)
theorem DI.nil {B : Nat} {bad : Nat → Prop} {A : World} : DI B bad A (.slice Option.none 0 0) [] := ⟨Owns.nil _ _ _ _ _, fun y h => absurd h (by simp)⟩
theorem DI.rows {B : Nat} {bad : Nat → Prop} {A : World} {dv : Value} {G : List DX} (h : DI B bad A dv G) (hB : ∀ b, bad b → b < B) : Fr A bad (fun x => Rows 5 (DatAt x) x dv (G.map Prod.fst)) := fun x hx =>
 (h.own.keep hx (fun b hb h2 => by have := (h.own.ge hb).1; have := hB b h2; omega)).rows.mapM Prod.fst (fun cs y hy hc => by
  rw [hc.1]
  exact h.fr y hy x (hx.mono fun _ _ h => .inr h))

def GF (y : GlX) (x : World) : Prop := Row x y.2.1 (y.1.1.map vs) ∧ Rows 5 (DatAt x) x y.2.2 y.1.2
structure GI (B : Nat) (bad : Nat → Prop) (A : World) (gv : Value) (G : List GlX) (F : World → Prop) : Prop where
 own : Owns 2 glC B A 143 gv G
 fr : ∀ y ∈ G, Fr A (fun b => some b = gv.ownBlock ∨ bad b) (GF y)
 dat : Fr A (fun b => some b = gv.ownBlock ∨ bad b) F
theorem GI.ext {B : Nat} {bad : Nat → Prop} {A A' : World} {gv : Value} {G : List GlX} {F : World → Prop} (h : GI B bad A gv G F) (hE : Ext A A') : GI B bad A' gv G F :=
 ⟨h.own.ext hE, fun y hy => (h.fr y hy).ext hE (fun b h _ => h), h.dat.ext hE (fun b h _ => h)⟩
end Go.Proofs.YtopbbjdembnfdaaGreat

namespace Go.Proofs.YtopbbjdembnfdaaGreat
open Go

def NumR (R : List RecL) : Prop := ∀ r ∈ R, ∀ n ∈ r.dat.nums, 0 ≤ n ∧ n ≤ 4294967295
theorem checkN_lb {n : Nm} (h : checkN n = 0) : LB n := fun l hl => by have := (checkN_labels h l hl).2; omega
theorem good_dat {R : List RecL} (h : GoodRs R) (hv : NumR R) : ∀ r ∈ R, DatOk r.dat := fun r hr => by
 have hf := (h.few r hr).2
 exact ⟨fun n hn => ⟨checkN_lb (h.names r hr n hn), by have := (hf.names n hn).2; omega⟩, by have := hf.nn; omega, by have := hf.nu; omega, by have := hf.nt; omega, hv r hr, by have := hf.nr; omega⟩
theorem good_ok {R : List RecL} (h : GoodRs R) (hv : NumR R) : ∀ r ∈ R, RecOk r := fun r hr =>
 ⟨checkN_lb (h.own r hr), by have := checkN_len (h.own r hr); omega, good_dat h hv r hr⟩
structure GoodC (R : List RecL) : Prop where
 ok : ∀ r ∈ R, RecOk r
 srt : SortR R
 gd : GoodR R
 ld : LeadR R
 len : R.length ≤ 60
 nn : ∀ r ∈ R, r.dat.names.length ≤ 1000000000
theorem good_canon {R : List RecL} (h : GoodRs R) (hv : NumR R) : GoodC (canonL R) := by
 refine ⟨canonL_all (fun a b h => ⟨h.lb, h.len, h.dat⟩) (good_ok h hv), canonL_sorted R, ?_, ?_, Nat.le_trans (canonL_len R) h.len, ?_⟩
 ·exact canonL_all (Q := fun r => ∀ n ∈ r.dat.names, NmG n) (fun a b h => h) (fun r hr n hn => checkN_g (h.names r hr n hn))
 ·refine canonL_all (Q := fun r => (r.dat.ty = 2 ∨ r.dat.ty = 5 ∨ r.dat.ty = 39) → r.dat.names ≠ []) (fun a b h => h) (fun r hr ht hn => ?_)
  have := h.lead r hr ht
  rw [hn] at this
  cases this
 ·exact canonL_all (Q := fun r => r.dat.names.length ≤ 1000000000) (fun a b h => h) (fun r hr => (h.few r hr).2.nn)
theorem good_zone {w0 w : World} {ov lv : Value} {o : Nm} {R : List RecL} (h : GoodC R) (hE : Ext w0 w) (ho : Row w ov (o.map vs)) (hl : Rows 7 (RecAt w0) w lv R) (hg : goodN o = true) : ZnAt w0 w ov lv o R :=
 ⟨hE, ho, hl, (goodN_g hg).m.s.lb, (goodN_g hg).m.s.len, h.ok, by have := h.len; omega⟩

structure ResF (P : DatL → Prop) (m : Nat) (r : ResL) : Prop where
 nm : NmS r.name
 dat : ∀ d ∈ r.data, P d
 dl : r.data.length ≤ m
 gl : r.glue.length ≤ m
 g : ∀ x ∈ r.glue, NmS x.1 ∧ (∀ d ∈ x.2, P d) ∧ x.2.length ≤ m + m
theorem resF_plain {P : DatL → Prop} {m : Nat} {k : Int} {ds : List DatL} {n : Nm} {b : Bool} (hn : NmS n) (hd : ∀ d ∈ ds, P d) (hl : ds.length ≤ m) : ResF P m ⟨k, ds, n, b, []⟩ :=
 ⟨hn, hd, hl, Nat.zero_le _, fun x h => by cases h⟩
theorem nil_s : NmS [] := ⟨fun l h => (by cases h), Nat.zero_le _⟩
section
variable {P : DatL → Prop} {R : List RecL} {o : Nm}
theorem datC_P (hP : ∀ r ∈ R, P r.dat) {n : Nm} {t : Int} : ∀ d ∈ datC R n t, P d := fun d hd => by
 obtain ⟨r, hr, rfl⟩ := datC_mem hd
 exact hP r hr
theorem refer_F (hP : ∀ r ∈ R, P r.dat) (hG : GoodR R) {n : Nm} (hn : NmS n) : ResF P R.length (referL R n) := by
 refine ⟨hn, datC_P hP, datC_len, ?_, fun x hx => ?_⟩
 ·exact Nat.le_trans (glueOf_len _ _) (Nat.le_trans (hostsG_len _ _) (Nat.le_trans (targets_len _ _) datC_len))
 ·obtain ⟨h, hh, he⟩ := List.mem_filterMap.1 hx
  split at he
  ·cases he
  ·cases he
   refine ⟨(targets_good hG (n := n) (t := 2) (fun d hd => hd) h (hostsG_mem _ _ h hh)).m.s, fun d hd => ?_, ?_⟩
   ·unfold glueL at hd
    rcases List.mem_append.1 hd with hd | hd
    ·exact datC_P hP d hd
    ·exact datC_P hP d hd
   ·have h1 := datC_len (R := R) (n := h) (t := 1)
    have h2 := datC_len (R := R) (n := h) (t := 28)
    show (glueL R h).length ≤ _
    unfold glueL
    rw [List.length_append]; omega
theorem take_P (hP : ∀ r ∈ R, P r.dat) {n : Nm} {t : Int} : (∀ d ∈ (datC R n t).take 1, P d) ∧ ((datC R n t).take 1).length ≤ R.length :=
 ⟨fun d hd => datC_P hP d (List.mem_of_mem_take hd), by have := datC_len (R := R) (n := n) (t := t); rw [List.length_take]; omega⟩
theorem renamed_F (hP : ∀ r ∈ R, P r.dat) (hG : GoodR R) {q n : Nm} (hq : NmM q) {r : ResL} (h : renamedL R q n = some r) : ResF P R.length r := by
 unfold renamedL at h
 split at h
 ·cases h
 ·split at h
  ·cases h
   have hm := swap_m hq (toN_m hG (n := n) (t := 39) (u := 39)) (f := n)
   exact resF_plain ⟨fun l hl => by have := hm.1 l hl; omega, by have := hm.2; omega⟩ (take_P hP).1 (take_P hP).2
  ·cases h
   exact resF_plain nil_s (fun d h => by cases h) (Nat.zero_le _)
theorem at_F (hP : ∀ r ∈ R, P r.dat) (hG : GoodR R) {n : Nm} {t : Int} {b : Bool} : ResF P R.length (atL R n t b) := by
 unfold atL
 split
 ·exact resF_plain nil_s (datC_P hP) datC_len
 ·split
  ·exact resF_plain (toN_m hG).s (take_P hP).1 (take_P hP).2
  ·exact resF_plain nil_s (fun d h => by cases h) (Nat.zero_le _)
theorem go_F (hP : ∀ r ∈ R, P r.dat) (hG : GoodR R) {q : Nm} (hq : NmM q) : ∀ {l : List Nm} {r : ResL}, (∀ n ∈ l, NmS n) → goL o R q l = some r → ResF P R.length r
 | [], r, _, h => by cases h
 | n :: l, r, hl, h => by
  simp only [goL] at h
  split at h
  ·cases h
   exact refer_F hP hG (hl n (List.mem_cons_self ..))
  ·split at h
   ·cases h
   ·split at h
    ·rename_i r' hr
     cases h
     exact renamed_F hP hG hq hr
    ·exact go_F hP hG hq (fun x hx => hl x (List.mem_cons_of_mem _ hx)) h
theorem look_F (hP : ∀ r ∈ R, P r.dat) (hG : GoodR R) {q : Nm} {t : Int} (hq : NmM q) : ResF P R.length (lookL o R q t) := by
 unfold lookL
 split
 ·exact resF_plain nil_s (fun d h => by cases h) (Nat.zero_le _)
 ·split
  ·rename_i r hr
   refine go_F hP hG hq (fun n hn => ?_) hr
   unfold downs at hn
   split at hn
   ·obtain ⟨i, _, rfl⟩ := downF_mem.1 hn
    exact (hq.drop i).s
   ·cases hn
  ·split
   ·exact at_F hP hG
   ·split
    ·exact at_F hP hG
    ·exact resF_plain nil_s (fun d h => by cases h) (Nat.zero_le _)
end
theorem look_ok {R : List RecL} (h : GoodC R) {o q : Nm} {t : Int} (hq : NmM q) : ResOk (lookL o R q t) := by
 have h1 := look_F (o := o) (P := DatOk) (fun r hr => (h.ok r hr).dat) h.gd (t := t) hq
 have hl := h.len
 exact ⟨h1.nm, h1.dat, by have := h1.dl; omega, by have := h1.gl; omega, fun x hx => by
  obtain ⟨a, b, c⟩ := h1.g x hx
  exact ⟨a, b, by omega⟩⟩
theorem cmpD_self (d : DatL) : cmpD d d = 0 := by
 have := cpr_D.neg d d
 omega
theorem sameRes_self (r : ResL) : sameRes r r = true := by
 have hD : ∀ d, sameD d d = true := fun d => by unfold sameD; rw [cmpD_self]; rfl
 have hGs : ∀ g, sameG g g = true := fun g => by unfold sameG; rw [eqAll_self hD]; simp
 unfold sameRes
 rw [eqAll_self hD, eqAll_self hGs]
 simp
theorem ResAt.base {w0 w : World} {cs : List Value} {r : ResL} (h : ResAt w0 w cs r) (hE : Ext w0 w) : ResAt w w cs r := by
 obtain ⟨dv, nv, gv, e, h1, h2, h3⟩ := h.ex
 refine ⟨dv, nv, gv, e, h1.to fun cs d hd => hd.ext hE, h2, h3.to fun cs x hx => ?_⟩
 obtain ⟨hv, dv, e, g1, g2⟩ := hx
 exact ⟨hv, dv, e, g1.ext hE, g2.to fun cs d hd => hd.ext hE⟩
end Go.Proofs.YtopbbjdembnfdaaGreat

namespace Go.Proofs.YtopbbjdembnfdaaGreat
open Go
set_option maxRecDepth 100000
section
variable {H : Type} {enc : TypeId × Value → H} {P : Program} {w : World} {base : Nat} {sp : Nat → Bool} {held : Bool}

theorem rd_ints {t e : TypeId} {k : IntKind} {v : Value} (h : Rd enc P w base sp held t v) (ht : P.underlying t = some (.slice e)) (hc : P.cellsOf e = 1) (he : P.underlying e = some (.int k)) : ∃ l : List Int, Row w v (l.map (.int k)) ∧ ∀ n ∈ l, (Lit.int k n).wf = true := by
 obtain ⟨vals, hr, hall, _⟩ := rd_slice h ht hc
 obtain ⟨m, rfl, hm⟩ := list_of (f := fun n => Value.int k n) (Q := fun n => (Lit.int k n).wf = true) (fun u hu => by
  obtain ⟨n, h1, h2⟩ := rd_int (hall u hu).c he
  exact ⟨n, by simpa using h1, h2⟩)
 exact ⟨m, hr, hm⟩

theorem wf_u32 {n : Int} (h : (Lit.int .u32 n).wf = true) : 0 ≤ n ∧ n ≤ 4294967295 := by
 simp [Lit.wf, IntKind.min, IntKind.max, IntKind.signed, IntKind.bits] at h
 omega
theorem wf_u8 {n : Int} (h : (Lit.int .u8 n).wf = true) : 0 ≤ n ∧ n ≤ 255 := by
 simp [Lit.wf, IntKind.min, IntKind.max, IntKind.signed, IntKind.bits] at h
 omega
theorem bytes_of {l : List Int} (h : ∀ n ∈ l, (Lit.int .u8 n).wf = true) : ∃ m : List UInt8, l.map (Value.int .u8) = m.map byteV := by
 induction l with
 | nil => exact ⟨[], rfl⟩
 | cons n l ih =>
  obtain ⟨m, hm⟩ := ih (fun x hx => h x (List.mem_cons_of_mem _ hx))
  have hb := wf_u8 (h n (List.mem_cons_self ..))
  obtain ⟨k, rfl⟩ : ∃ k : Nat, n = (k : Int) := ⟨n.toNat, by omega⟩
  exact ⟨UInt8.ofNat k :: m, by rw [List.map_cons, List.map_cons, hm, byteV_of (by omega)]⟩

theorem rd_data {cs : List Value} (h : RdC enc Tryz.prog w base sp held 59 cs) : ∃ d : DatL, DatAt w cs d ∧ ∀ n ∈ d.nums, 0 ≤ n ∧ n ≤ 4294967295 := by
 obtain ⟨hl, hf⟩ := rd_field h rfl
 have hl5 : cs.length = 5 := hl
 match cs, hl5 with
 | [c0, c1, c2, c3, c4], _ =>
  obtain ⟨ty, e0, _⟩ := rd_int (hf 0 _ rfl) rfl
  obtain ⟨names, n1, _⟩ := rd_names (P := Tryz.prog) (ts := 23) (tb := 9) (RdC.one (hf 1 _ rfl)) rfl rfl rfl rfl rfl rfl
  obtain ⟨nums, n2, n3⟩ := rd_ints (RdC.one (hf 2 _ rfl)) rfl rfl rfl
  obtain ⟨texts, n4, _⟩ := rd_name (P := Tryz.prog) (RdC.one (hf 3 _ rfl)) (e := 9) rfl rfl rfl rfl
  obtain ⟨raw, n5, n6⟩ := rd_ints (RdC.one (hf 4 _ rfl)) rfl rfl rfl
  obtain ⟨rb, hrb⟩ := bytes_of n6
  rw [hrb] at n5
  have e0' : c0 = vi ty := List.head_eq_of_cons_eq (show [c0] = [vi ty] from e0)
  exact ⟨⟨ty, names, nums, texts, rb⟩, ⟨c1, c2, c3, c4, by rw [e0'], n1, n2, n4, n5⟩, fun n hn => wf_u32 (n3 n hn)⟩
theorem rd_rec {cs : List Value} (h : RdC enc Tryz.prog w base sp held 110 cs) : ∃ r : RecL, RecAt w cs r ∧ ∀ n ∈ r.dat.nums, 0 ≤ n ∧ n ≤ 4294967295 := by
 obtain ⟨hl, hf⟩ := rd_field h rfl
 have hl7 : cs.length = 7 := hl
 match cs, hl7 with
 | [c0, c1, c2, c3, c4, c5, c6], _ =>
  obtain ⟨owner, n0, _⟩ := rd_name (P := Tryz.prog) (RdC.one (hf 0 _ rfl)) (e := 9) rfl rfl rfl rfl
  obtain ⟨ttl, e1, _⟩ := rd_int (hf 1 _ rfl) rfl
  obtain ⟨d, hd, hn⟩ := rd_data (hf 2 _ rfl)
  have e1' : c1 = v32 ttl := List.head_eq_of_cons_eq (show [c1] = [v32 ttl] from e1)
  have hd' : DatAt w [c2, c3, c4, c5, c6] d := hd
  exact ⟨⟨owner, ttl, d⟩, ⟨c0, [c2, c3, c4, c5, c6], by rw [e1'], n0, hd'⟩, hn⟩
theorem rd_recs {v : Value} (h : Rd enc Tryz.prog w base sp held 24 v) : ∃ R : List RecL, Rows 7 (RecAt w) w v R ∧ NumR R := by
 obtain ⟨L, hL, hall, _⟩ := rd_sliceC h (e := 110) (k := 7) rfl rfl
 have : ∀ L : List (List Value), (∀ cs ∈ L, RdC enc Tryz.prog w base sp held 110 cs) → ∃ R : List RecL, L.length = R.length ∧ (∀ i (h : i < L.length) (h' : i < R.length), RecAt w L[i] R[i]) ∧ NumR R := fun L => by
  induction L with
  | nil => intro _; exact ⟨[], rfl, fun i h => by simp at h, fun r h => by cases h⟩
  | cons cs L ih =>
   intro h
   obtain ⟨r, h1, h2⟩ := rd_rec (h cs (List.mem_cons_self ..))
   obtain ⟨R, a1, a2, a3⟩ := ih (fun x hx => h x (List.mem_cons_of_mem _ hx))
   refine ⟨r :: R, by simp [a1], fun i a b => ?_, fun x hx => ?_⟩
   ·cases i with
    | zero => exact h1
    | succ i => exact a2 i (by simpa using a) (by simpa using b)
   ·rcases List.mem_cons.1 hx with rfl | hx
    ·exact h2
    ·exact a3 x hx
 obtain ⟨R, a1, a2, a3⟩ := this L hall
 exact ⟨R, ⟨L, hL, a1, a2⟩, a3⟩
end
end Go.Proofs.YtopbbjdembnfdaaGreat

namespace Go.Proofs.YtopbbjdembnfdaaGreat
open Go
set_option maxRecDepth 100000

def kO : Nm := [[111]]
def kA : DatL := ⟨1, [], [], [], [1, 2, 3, 4]⟩
def kNs : Nm := [[110, 115], [115], [111]]
def kNsD : DatL := ⟨2, [kNs], [], [], []⟩
def kDn : DatL := ⟨39, [[[116]]], [], [], []⟩
def kCn : DatL := ⟨5, [[[99]]], [], [], []⟩
def kRs : List RecL := [⟨[[97], [111]], 0, kA⟩, ⟨[[115], [111]], 0, kNsD⟩, ⟨kNs, 0, kA⟩, ⟨[[100], [111]], 0, kDn⟩, ⟨[[42], [119], [111]], 0, kCn⟩]
def kL (q : Nm) : ResL := lookL kO (canonL kRs) q 1
theorem k_a : kL [[65], [111]] = ⟨1, [kA], [], false, []⟩ := by kernel_rfl
theorem k_s : kL [[113], [115], [111]] = ⟨4, [kNsD], [[115], [111]], false, [(kNs, [kA])]⟩ := by kernel_rfl
theorem k_d : kL [[112], [100], [111]] = ⟨5, [kDn], [[112], [116]], false, []⟩ := by kernel_rfl
theorem k_w : kL [[112], [119], [111]] = ⟨5, [kCn], [[99]], true, []⟩ := by kernel_rfl
theorem k_v : kL [[118], [111]] = ⟨3, [], [], false, []⟩ := by kernel_rfl
theorem k_e : kL [[119], [111]] = ⟨2, [], [], false, []⟩ := by kernel_rfl
theorem k_p : kL [[112]] = ⟨7, [], [], false, []⟩ := by kernel_rfl
theorem k_rs : GoodRs kRs := by
 refine ⟨by decide, ?_, ?_, ?_, ?_⟩
 all_goals
  intro r hr
  simp only [kRs, List.mem_cons, List.not_mem_nil, or_false] at hr
 ·rcases hr with rfl | rfl | rfl | rfl | rfl
  all_goals
   refine ⟨by kernel_rfl, ⟨?_, by decide, by decide, by decide, ?_, by decide⟩⟩
   ·intro n hn
    simp only [kA, kNsD, kDn, kCn, List.mem_cons, List.not_mem_nil, or_false] at hn
    try subst hn
    try decide
   ·intro l hl; cases hl
 ·rcases hr with rfl | rfl | rfl | rfl | rfl <;> kernel_rfl
 ·rcases hr with rfl | rfl | rfl | rfl | rfl
  all_goals
   intro n hn
   simp only [kA, kNsD, kDn, kCn, List.mem_cons, List.not_mem_nil, or_false] at hn
   try subst hn
   try kernel_rfl
 ·rcases hr with rfl | rfl | rfl | rfl | rfl
  all_goals
   intro ht
   first | rfl | (simp [leadT, kA] at ht)
theorem k_num : NumR kRs := by
 intro r hr
 simp only [kRs, List.mem_cons, List.not_mem_nil, or_false] at hr
 rcases hr with rfl | rfl | rfl | rfl | rfl <;> (intro n hn; cases hn)
theorem k_good : GoodC (canonL kRs) := good_canon k_rs k_num
end Go.Proofs.YtopbbjdembnfdaaGreat

namespace Go.Proofs.YtopbbjdembnfdaaGreat
open Go
set_option maxRecDepth 10000

def KnownOk : Prop := ∀ w : World, Fn Tryz.prog 15 #[] w (fun v w' => v = .bool true ∧ Ext w w')

end Go.Proofs.YtopbbjdembnfdaaGreat

namespace Go.Proofs.YtopbbjdembnfdaaGreat
open Go
section
variable {P : Program} {x : World} {e : TypeId} {K : Value → World → Prop}
theorem sv_new {t : TypeId} {cur : Array Value} {l : List Value} (hl : l.length = cur.size) (h1 : ∀ v ∈ l, one v = true) (hs : tyS P t = l.length) (hi : (P.info? t).isSome = true)
  (hK : ∀ w', Ext x w' → w'.heap.size = x.heap.size + 1 → w'.heap[x.heap.size]? = some (.cells l.toArray e (0, 0)) → K undef w') : stK P t (.pointer (some ⟨x.heap.size, 0, Option.none⟩)) (.agg l.toArray) (x.alloc (.cells cur e (0, 0))) K := by
 have hB3 := new_block x (.cells cur e (0, 0))
 have hE4 := Ext.alloc x (.cells cur e (0, 0))
 have hs4 := new_size x (.cells cur e (0, 0))
 refine sv_all (P := P) (t := t) (l := l) hB3 hl h1 hs hi ?_
 intro w5 hs5 hB5 hk5
 exact hK w5 (Keep.to_ext hE4 rfl (fun b hb => by omega) hk5) (by omega) hB5
theorem Row.isOne {w : World} {v : Value} {l : List Value} (h : Row w v l) : one v = true := by
 obtain ⟨a, c, rfl, _⟩ := h; rfl
theorem Rows.isOne {α : Type} {k : Nat} {C : List Value → α → Prop} {w : World} {v : Value} {l : List α} (h : Rows k C w v l) : one v = true := by
 obtain ⟨a, c, rfl, _⟩ := h.open; rfl
theorem two_one {a b : Value} (ha : one a = true) (hb : one b = true) : ∀ v ∈ [a, b], one v = true := fun v h => by
 simp at h
 rcases h with rfl | rfl <;> assumption
end
end Go.Proofs.YtopbbjdembnfdaaGreat

namespace Go.Proofs.YtopbbjdembnfdaaGreat
open Go
section
variable {P : Program} {d : Option Tmp} {ty : TypeId} {ps : String} {af : Array Edge} {g : Option (Nat × Bool)} {ρ : Operand → Value} {w : World} {K : Value → World → Prop}
theorem op_field {s : TypeId} {x : Operand} {f : Nat} {fs : Array Field} {fd : Field} {cs : Array Value} {v : Value} (hs : P.underlying s = some (.struct fs)) (hf : fs[f]? = some fd) (ha : tyA P fd.type = false) (hu : (P.underlying fd.type).isSome = true)
  (hx : ρ x = .agg cs) (hv : cs[fd.offset]? = some v) (h : K v w) : opV P ⟨d, .field s x f, ty, ps, af, g⟩ ρ w K := by
 show opW P _ ρ w K
 refine opR_val (s := Instr.field s (ρ x) f) (w' := w) (v := v) ?_ h
 obtain ⟨u, hu⟩ := Option.isSome_iff_exists.1 hu
 have hi : (isAgg fd.type).run P w = .ok false w := by
  unfold tyA at ha
  rw [hu] at ha
  cases u <;> first | (cases ha; done) | simp [isAgg, underlying, program, Sem.run, hu]
 have hp : (part fd.type cs fd.offset).run P w = .ok v w := by
  unfold part
  simp only [Sem.run_bind, hi, Result.andThen_ok, Bool.false_eq_true, if_false, hv, Sem.run_pure]
 unfold Instr.field
 simp [underlying, program, Sem.run, hs, hf, hx, asAgg]
 exact hp
end
end Go.Proofs.YtopbbjdembnfdaaGreat

namespace Go.Proofs.YtopbbjdembnfdaaGreat
open Go

def Alk (a b : ResL) : Prop := ∃ n, b = { a with name := n } ∧ foldN n = foldN a.name
theorem sameD_self (d : DatL) : sameD d d = true := by unfold sameD; rw [cmpD_self]; rfl
theorem sameG_self (g : Nm × List DatL) : sameG g g = true := by unfold sameG; rw [eqAll_self sameD_self]; simp
theorem Alk.same {a b : ResL} (h : Alk a b) : sameRes a b = true := by
 obtain ⟨n, rfl, h⟩ := h
 unfold sameRes
 rw [eqAll_self sameD_self, eqAll_self sameG_self, h]
 simp
theorem Alk.kind {a b : ResL} (h : Alk a b) : b.kind = a.kind := by
 obtain ⟨n, rfl, h⟩ := h; rfl
section
variable {R : List RecL} {o q n : Nm} {t : Int}
end

/-! types -/
section
variable {R : List RecL} {o q n : Nm} {t u : Int}
theorem renamed_kind {r : ResL} (h : renamedL R q n = some r) : (r.kind = 5 ∨ r.kind = 6) ∧ (r.kind = 5 → ∀ d ∈ r.data, d.ty = 39) := by
 unfold renamedL at h
 split at h
 ·cases h
 ·split at h
  ·cases h
   exact ⟨.inl rfl, fun _ d hd => datC_ty (List.mem_of_mem_take hd)⟩
  ·cases h
   exact ⟨.inr rfl, fun h => by cases h⟩
theorem at_kind {b : Bool} : ((atL R n t b).kind = 1 ∨ (atL R n t b).kind = 2 ∨ (atL R n t b).kind = 5) ∧ ((atL R n t b).kind = 1 → ∀ d ∈ (atL R n t b).data, d.ty = t) ∧ ((atL R n t b).kind = 5 → ∀ d ∈ (atL R n t b).data, d.ty = 5) := by
 unfold atL
 split
 ·exact ⟨.inl rfl, (fun _ d hd => datC_ty hd), fun h => by cases h⟩
 ·split
  ·exact ⟨.inr (.inr rfl), (fun h => by cases h), fun _ d hd => datC_ty (List.mem_of_mem_take hd)⟩
  ·exact ⟨.inr (.inl rfl), (fun h => by cases h), fun h => by cases h⟩
end

/-! cuts -/
section
variable {R : List RecL} {o q : Nm} {t u : Int}
theorem downF_split {n : Nm} {i : Nat} : ∀ {K : Nat}, i ≤ K → ∃ suf, downF n K = downF (n.drop i) (K - i) ++ suf
 | 0, h => by
  have : i = 0 := by omega
  subst this
  exact ⟨[], by simp [downF]⟩
 | K + 1, h => by
  by_cases hi : i = K + 1
  ·subst hi
   refine ⟨downF n K, ?_⟩
   rw [show K + 1 - (K + 1) = 0 from by omega]
   simp [downF]
  ·obtain ⟨suf, hs⟩ := downF_split (n := n) (i := i) (K := K) (by omega)
   refine ⟨suf, ?_⟩
   rw [show K + 1 - i = (K - i) + 1 from by omega]
   simp only [downF, List.cons_append]
   rw [hs, List.drop_drop, show i + (K - i + 1) = K + 1 from by omega]
theorem downF_last {n : Nm} : ∀ {K : Nat}, ∃ pre, downF n K = pre ++ [n] ∧ ∀ x ∈ pre, ∃ i, 0 < i ∧ i ≤ K ∧ x = n.drop i
 | 0 => ⟨[], by simp [downF], fun x h => by cases h⟩
 | K + 1 => by
  obtain ⟨pre, h1, h2⟩ := downF_last (n := n) (K := K)
  refine ⟨n.drop (K + 1) :: pre, by simp only [downF, h1, List.cons_append], fun x hx => ?_⟩
  rcases List.mem_cons.1 hx with rfl | hx
  ·exact ⟨K + 1, by omega, Nat.le_refl _, rfl⟩
  ·obtain ⟨i, a, b, c⟩ := h2 x hx
   exact ⟨i, a, by omega, c⟩
theorem go_ahead {x : Nm} : ∀ {pre : List Nm} {suf : List Nm}, (∀ n ∈ pre, cutP o R n = false ∧ n.length ≠ x.length) → (∀ n ∈ pre, n.length ≠ q.length) →
  ((∀ n ∈ pre, datC R n 39 = []) ∧ goL o R q (pre ++ suf) = goL o R q suf) ∨ ((∃ n ∈ pre, datC R n 39 ≠ []) ∧ ∃ r, goL o R q (pre ++ suf) = some r ∧ (r.kind = 5 ∨ r.kind = 6))
 | [], suf, _, _ => .inl ⟨fun n h => (by cases h), rfl⟩
 | n :: pre, suf, h1, h2 => by
  obtain ⟨a, b⟩ := h1 n (List.mem_cons_self ..)
  have c := h2 n (List.mem_cons_self ..)
  simp only [List.cons_append, goL]
  rw [a, if_neg Bool.false_ne_true, if_neg c]
  by_cases hd : datC R n 39 = []
  ·have : renamedL R q n = Option.none := by unfold renamedL; rw [if_pos hd]
   rw [this]
   rcases go_ahead (suf := suf) (fun m hm => h1 m (List.mem_cons_of_mem _ hm)) (fun m hm => h2 m (List.mem_cons_of_mem _ hm)) with ⟨g1, g2⟩ | ⟨⟨m, hm, hm2⟩, g2⟩
   ·refine .inl ⟨fun m hm => ?_, g2⟩
    rcases List.mem_cons.1 hm with rfl | hm
    ·exact hd
    ·exact g1 m hm
   ·exact .inr ⟨⟨m, List.mem_cons_of_mem _ hm, hm2⟩, g2⟩
  ·right
   refine ⟨⟨n, List.mem_cons_self .., hd⟩, ?_⟩
   cases hr : renamedL R q n with
   | none =>
    unfold renamedL at hr
    rw [if_neg hd] at hr
    split at hr <;> cases hr
   | some r => exact ⟨r, rfl, (renamed_kind hr).1⟩
theorem find_split {α : Type} {p : α → Bool} {x : α} : ∀ {l : List α}, l.find? p = some x → ∃ pre suf, l = pre ++ x :: suf ∧ p x = true ∧ ∀ y ∈ pre, p y = false
 | [], h => by cases h
 | a :: l, h => by
  rw [List.find?_cons] at h
  split at h
  ·rename_i ha
   cases h
   exact ⟨[], l, rfl, ha, fun y h => by cases h⟩
  ·rename_i ha
   obtain ⟨pre, suf, h1, h2, h3⟩ := find_split h
   refine ⟨a :: pre, suf, by rw [h1]; rfl, h2, fun y hy => ?_⟩
   rcases List.mem_cons.1 hy with rfl | hy
   ·simpa using ha
   ·exact h3 y hy
theorem look_nocut (hu : under q o = true) (hc : cutL o R q = Option.none) : (lookL o R q t).kind ≠ 4 ∧ (lookL o R q t).kind ≠ 7 := by
 unfold cutL at hc
 rw [if_pos hu] at hc
 have hno : ∀ x ∈ downs o q, cutP o R x = false := fun x hx => by simpa using (List.find?_eq_none.1 hc) x hx
 have h4 : ∀ {l : List Nm} {r : ResL}, (∀ x ∈ l, cutP o R x = false) → goL o R q l = some r → r.kind = 5 ∨ r.kind = 6 := by
  intro l
  induction l with
  | nil => intro r _ h; cases h
  | cons n l ih =>
   intro r hl h
   simp only [goL] at h
   rw [hl n (List.mem_cons_self ..), if_neg Bool.false_ne_true] at h
   split at h
   ·cases h
   ·split at h
    ·rename_i r' hr
     cases h
     exact (renamed_kind hr).1
    ·exact ih (fun x hx => hl x (List.mem_cons_of_mem _ hx)) h
 unfold lookL
 rw [if_neg (by rw [hu]; simp)]
 cases hg : goL o R q (downs o q) with
 | some r =>
  have := h4 hno hg
  show r.kind ≠ 4 ∧ r.kind ≠ 7
  omega
 | none =>
  have key : ∀ {n : Nm} {b : Bool}, (atL R n t b).kind ≠ 4 ∧ (atL R n t b).kind ≠ 7 := fun {n b} => by
   have := (at_kind (R := R) (n := n) (t := t) (b := b)).1
   omega
  by_cases he : existsL o R q = true
  ·simp only [if_pos he]
   exact key
  ·simp only [if_neg he]
   cases sourceL o R q with
   | none => exact ⟨(by decide : (3 : Int) ≠ 4), (by decide : (3 : Int) ≠ 7)⟩
   | some s => exact key
theorem look_cut (hs : SortR R) {c : Nm} (hu : under q o = true) (hc : cutL o R q = some c) :
    (∃ k, k ≤ q.length ∧ c = q.drop k) ∧
    ((∀ t, lookL o R c t = referL R c) ∧ (∀ t, lookL o R q t = referL R c) ∧ datC R c 2 ≠ [] ∨
     (∀ t, (lookL o R c t).kind = 5 ∨ (lookL o R c t).kind = 6) ∧ ∀ t, (lookL o R q t).kind = 5 ∨ (lookL o R q t).kind = 6) := by
  unfold cutL at hc
  rw [if_pos hu] at hc
  have hol := under_len hu
  have hdn : downs o q = downF q (q.length - o.length) := if_pos hol
  rw [hdn] at hc
  obtain ⟨pre, suf, hsp, hcp, hpre⟩ := find_split hc
  obtain ⟨k, hk, hck⟩ := downF_mem.1 (show c ∈ downF q (q.length - o.length) from by rw [hsp]; simp)
  have hkl : k ≤ q.length := by omega
  refine ⟨⟨k, hkl, hck⟩, ?_⟩
  have hcl : c.length = q.length - k := by rw [hck, List.length_drop]
  have hol2 : o.length < c.length := by
    unfold cutP at hcp
    simp only [Bool.and_eq_true, decide_eq_true_eq] at hcp
    exact hcp.1
  have huc : under c o = true := by rw [hck, under_down hkl, hu, Bool.and_true]; exact decide_eq_true hk
  -- what is ahead of the cut is the same from the cut and from the name
  obtain ⟨suf2, hsf⟩ := downF_split (n := q) hk
  obtain ⟨pre2, hp2, hp3⟩ := downF_last (n := q.drop k) (K := q.length - o.length - k)
  have hdc : downs o c = pre2 ++ [c] := by
    unfold downs
    rw [if_pos (by omega), hck, List.length_drop, show q.length - k - o.length = q.length - o.length - k from by omega]
    exact hp2
  have hlen : ∀ x ∈ pre2, x.length < c.length := fun x hx => by
    obtain ⟨i, a, b, rfl⟩ := hp3 x hx
    rw [List.length_drop, List.length_drop]
    omega
  have hall : downF q (q.length - o.length) = pre2 ++ c :: suf2 := by
    rw [hsf, hp2, List.append_assoc, hck]; rfl
  have hpp : pre = pre2 := by
    have h1 : pre ++ c :: suf = pre2 ++ c :: suf2 := by rw [← hsp, hall]
    -- the first that is a cut
    have hx : ∀ x ∈ pre2, cutP o R x = false := by
      intro x hx
      -- lengths rise along the row
      have hrise : ∀ (K : Nat), (downF q K).Pairwise (fun a b => a.length ≤ b.length) := fun K => by
        induction K with
        | zero => simp [downF]
        | succ K ih =>
          simp only [downF]
          refine List.pairwise_cons.2 ⟨fun y hy => ?_, ih⟩
          obtain ⟨i, hi, rfl⟩ := downF_mem.1 hy
          rw [List.length_drop, List.length_drop]; omega
      have hr := hrise (q.length - o.length)
      have hx1 : x ∈ pre ++ c :: suf := by rw [h1]; exact List.mem_append_left _ hx
      rw [hsp] at hr
      rcases List.mem_append.1 hx1 with h | h
      · exact hpre x h
      · exfalso
        have hlx := hlen x hx
        rcases List.mem_cons.1 h with rfl | h
        · omega
        · have := (List.pairwise_append.1 hr).2.1
          have := (List.pairwise_cons.1 this).1 x h
          omega
    have key : ∀ {a b s1 s2 : List Nm}, a ++ c :: s1 = b ++ c :: s2 → (∀ x ∈ a, cutP o R x = false) → (∀ x ∈ b, cutP o R x = false) → a = b := by
      intro a
      induction a with
      | nil =>
        intro b s1 s2 h _ hb
        cases b with
        | nil => rfl
        | cons y b =>
          simp only [List.nil_append, List.cons_append, List.cons.injEq] at h
          have := hb y (List.mem_cons_self ..)
          rw [← h.1, hcp] at this
          cases this
      | cons x a ih =>
        intro b s1 s2 h ha hb
        cases b with
        | nil =>
          simp only [List.nil_append, List.cons_append, List.cons.injEq] at h
          have := ha x (List.mem_cons_self ..)
          rw [h.1, hcp] at this
          cases this
        | cons y b =>
          simp only [List.cons_append, List.cons.injEq] at h
          rw [h.1, ih h.2 (fun z hz => ha z (List.mem_cons_of_mem _ hz)) (fun z hz => hb z (List.mem_cons_of_mem _ hz))]
    exact key h1 hpre hx
  subst hpp
  have g1 := go_ahead (q := c) (x := c) (suf := [c]) (fun n hn => ⟨hpre n hn, by have := hlen n hn; omega⟩) (fun n hn => by have := hlen n hn; omega)
  have g2 := go_ahead (q := q) (x := c) (suf := c :: suf2) (fun n hn => ⟨hpre n hn, by have := hlen n hn; omega⟩) (fun n hn => by have := hlen n hn; omega)
  have hdq : downs o q = pre ++ c :: suf2 := by rw [hdn, hall]
  have lk : ∀ {y : Nm} {r : ResL} (t : Int), under y o = true → goL o R y (downs o y) = some r → lookL o R y t = r := fun {y r} t hy hr => by
    unfold lookL
    rw [if_neg (by rw [hy]; simp), hr]
  have hcc : ∀ y l, goL o R y (c :: l) = some (referL R c) := fun y l => by
    simp only [goL]
    rw [if_pos hcp]
  rcases g1 with ⟨a1, a2⟩ | ⟨⟨m, hm, hm2⟩, r, hr, hk1⟩
  · rcases g2 with ⟨_, b2⟩ | ⟨⟨m, hm, hm2⟩, _⟩
    · left
      refine ⟨fun t => lk t huc (by rw [hdc, a2, hcc]), fun t => lk t hu (by rw [hdq, b2, hcc]), ?_⟩
      unfold cutP hasL at hcp
      simp only [Bool.and_eq_true] at hcp
      obtain ⟨r, hr, hr2⟩ := List.any_eq_true.1 hcp.2
      have : r ∈ ofC R c 2 := by rw [ofC_sorted hs]; exact List.mem_filter.2 ⟨hr, hr2⟩
      intro e
      unfold datC at e
      rw [List.map_eq_nil_iff] at e
      rw [e] at this
      cases this
    · exact absurd (a1 m hm) hm2
  · right
    rcases g2 with ⟨b1, _⟩ | ⟨_, r2, hr2, hk2⟩
    · exact absurd (b1 m hm) hm2
    · refine ⟨fun t => ?_, fun t => ?_⟩
      · rw [lk t huc (by rw [hdc]; exact hr)]; exact hk1
      · rw [lk t hu (by rw [hdq]; exact hr2)]; exact hk2
end
end Go.Proofs.YtopbbjdembnfdaaGreat

namespace Go.Proofs.YtopbbjdembnfdaaGreat
open Go
set_option maxRecDepth 10000

set_option maxHeartbeats 4000000 in
theorem LookBelow_ok (hkn : KnownOk) (W : World) {ov lv qv : Value} {o q : Nm} {R : List RecL} {t u : Int} (ho : Row W ov (o.map vs)) (hl : Rows 7 (RecAt W) W lv R) (hv : NumR R) (hq : Row W qv (q.map vs)) :
  Fn Tryz.prog 5 #[ov, lv, qv, vi t, vi u] W (fun v w' => v = .bool true ∧ Ext W w') := by
 refine enter Tryz.func5 Tryz.ntmps5 rfl rfl ?_
 repeat refine c_r ?_
 refine rg0 ?_
 repeat refine c_r ?_
 refine rq ?_; intro gd K hgd hK
 try simp (disch := first | omega | assumption | rfl) only [↓reduceIte, go_sem, Nat.reduceLT, Nat.reduceEqDiff, Nat.reduceSub]
 refine Fn.mono (hkn W) ?_
 rintro _ w1 ⟨rfl, hE1⟩
 try simp (disch := first | omega | assumption | rfl) only [↓reduceIte, go_sem, Nat.reduceLT, Nat.reduceEqDiff, Nat.reduceSub]
 refine hK _ _ ?_; clear hK hgd; clear K; try clear gd
 repeat refine c_r ?_
 refine W_cond (t := false) (vr0) (fun h => by cases h) ?_
 intro _
 repeat refine c_r ?_
 refine W_mono (Q := fun e σ' ds' v' => e = .normal ∧ ds' = [] ∧ σ' 0 = ov ∧ σ' 1 = lv ∧ σ' 2 = qv ∧ σ' 3 = vi t ∧ σ' 4 = vi u ∧ Ext W v' ∧ ∃ bb, σ' 33 = .bool bb ∧ (bb = false → goodN o = true ∧ GoodRs R ∧ goodN q = true ∧ under q o = true)) ?_ ?_
 ·refine rq ?_; intro gd K hgd hK
  have hg4 : ∀ n σ b, wantV gd n σ (some (4, b)) = boolIs (ev n σ (.tmp 23)) b := (fun n σ b => by rw [wantV_some, show gd 4 = some 23 from (by rw [hgd]; rfl)]; rfl); have hg9 : ∀ n σ b, wantV gd n σ (some (9, b)) = boolIs (ev n σ (.tmp 28)) b := (fun n σ b => by rw [wantV_some, show gd 9 = some 28 from (by rw [hgd]; rfl)]; rfl)
  try simp (disch := first | omega | assumption | rfl) only [↓reduceIte, go_sem, Nat.reduceLT, Nat.reduceEqDiff, Nat.reduceSub]
  refine Fn.mono (ZGood_ok hE1 (ho.ext hE1) (hl.ext hE1)) ?_
  rintro _ w2 ⟨hE2, b, rfl, hb⟩
  cases b with
  | false =>
   try simp (disch := first | omega | assumption | rfl) only [↓reduceIte, go_sem, Nat.reduceLT, Nat.reduceEqDiff, Nat.reduceSub, Bool.not_false, ↓hg4, ↓hg9]
   refine hK _ _ ?_; clear hK hgd; clear K; try clear gd
   exact ⟨rfl, rfl, vq0, vq0, vq0, vq0, vq0, hE1.trans hE2, _, vr0, fun h => by cases h⟩
  | true =>
   try simp (disch := first | omega | assumption | rfl) only [↓reduceIte, go_sem, Nat.reduceLT, Nat.reduceEqDiff, Nat.reduceSub, Bool.not_true, ↓hg4, ↓hg9]
   refine Fn.mono (NGood_ok w2 qv q (hq.ext (hE1.trans hE2))) ?_
   rintro _ w3 ⟨rfl, hE3⟩
   cases hgq : goodN q with
   | false =>
    try simp (disch := first | omega | assumption | rfl) only [↓reduceIte, go_sem, Nat.reduceLT, Nat.reduceEqDiff, Nat.reduceSub, Bool.not_false, ↓hg4, ↓hg9]
    refine hK _ _ ?_; clear hK hgd; clear K; try clear gd
    exact ⟨rfl, rfl, vq0, vq0, vq0, vq0, vq0, (hE1.trans hE2).trans hE3, _, vr0, fun h => by cases h⟩
   | true =>
    have mq : NmM q := (goodN_g hgq).m
    have mo : NmM o := (goodN_g (hb rfl).1).m
    have ql := mq.len
    have ol := mo.len
    try simp (disch := first | omega | assumption | rfl) only [↓reduceIte, go_sem, Nat.reduceLT, Nat.reduceEqDiff, Nat.reduceSub, Bool.not_true, ↓hg4, ↓hg9]
    refine Fn.mono (Under_ok w3 qv ov q o (hq.ext ((hE1.trans hE2).trans hE3)) (ho.ext ((hE1.trans hE2).trans hE3)) mq.LB mo.LB (by omega) (by omega)) ?_
    rintro _ w4 ⟨rfl, hE4⟩
    try simp (disch := first | omega | assumption | rfl) only [↓reduceIte, go_sem, Nat.reduceLT, Nat.reduceEqDiff, Nat.reduceSub, ↓hg4, ↓hg9]
    refine hK _ _ ?_; clear hK hgd; clear K; try clear gd
    exact ⟨rfl, rfl, vq0, vq0, vq0, vq0, vq0, ((hE1.trans hE2).trans hE3).trans hE4, _, vr0, fun h => ⟨(hb rfl).1, (hb rfl).2, hgq, by simpa using h⟩⟩
 clear hE1 w1
 rintro _ σ1 _ w1 ⟨rfl, rfl, h0, h1, h2, h3, h4, hE1, bb, h33, hbb⟩
 repeat refine c_r ?_
 refine W_cond (t := bb) ((vq1 h33)) ?_ ?_
 ·intro _
  repeat (first | refine c_r ?_ | refine rg0 ?_)
  refine rt0 Tryz.ntmps5 ?_
  exact ⟨rfl, hE1⟩
 intro hb
 obtain ⟨go, gR, gq, hu⟩ := hbb hb
 have hC := good_canon gR hv
 have hrok := good_ok gR hv
 have hRl := gR.len
 have mq : NmM q := (goodN_g gq).m
 repeat refine c_r ?_
 refine rq ?_; intro gd K hgd hK
 try simp (disch := first | omega | assumption | rfl) only [↓reduceIte, go_sem, Nat.reduceLT, Nat.reduceEqDiff, Nat.reduceSub, h0, h1]
 refine Fn.mono (ZNew_ok hE1 (ho.ext hE1) (hl.ext hE1) hrok (by omega)) ?_
 rintro _ w2 ⟨hE2, cv, rfl, hcv⟩
 have hE12 := hE1.trans hE2
 try simp (disch := first | omega | assumption | rfl) only [↓reduceIte, go_sem, Nat.reduceLT, Nat.reduceEqDiff, Nat.reduceSub]
 refine sv_new (P := Tryz.prog) (l := [ov, cv]) rfl (two_one ho.isOne hcv.isOne) rfl rfl ?_
 intro w3 hE3 hs3 hB3
 try simp (disch := first | omega | assumption | rfl) only [↓reduceIte, go_sem, Nat.reduceLT, Nat.reduceEqDiff, Nat.reduceSub]
 refine hK _ _ ?_; clear hK hgd; clear K; try clear gd
 have hE13 := hE12.trans hE3
 have d3 := sv_cells (n := 2) hB3 rfl
 have hcv3 := hcv.ext hE3
 have hz3 := good_zone hC hE13 (ho.ext hE13) hcv3 go
 repeat refine c_r ?_
 refine rq ?_; intro gd K hgd hK
 try simp (disch := first | omega | assumption | rfl) only [↓reduceIte, go_sem, Nat.reduceLT, Nat.reduceEqDiff, Nat.reduceSub, h2, d3]
 refine Fn.mono (CutOf_ok hz3 (hq.ext hE13) mq.s) ?_
 rintro _ w4 ⟨hE4, xv, rfl, hxv⟩
 try simp (disch := first | omega | assumption | rfl) only [↓reduceIte, go_sem, Nat.reduceLT, Nat.reduceEqDiff, Nat.reduceSub]
 refine hK _ _ ?_; clear hK hgd; clear K; try clear gd
 have hE14 := hE13.trans hE4
 have d4 := cellsO_ext hE4 d3
 have hz4 := good_zone hC hE14 (ho.ext hE14) (hcv3.ext hE4) go
 repeat refine c_r ?_
 refine rg0 ?_
 repeat refine c_r ?_
 cases hcut : cutL o (canonL R) q with
 | none =>
  refine W_cond (t := true) (vr0) ?_ (fun h => by cases h)
  intro _
  obtain ⟨n4, n7⟩ := look_nocut (t := t) hu hcut
  repeat refine c_r ?_
  refine rq ?_; intro gd K hgd hK
  have hg6 : ∀ n σ b, wantV gd n σ (some (6, b)) = boolIs (ev n σ (.tmp 51)) b := (fun n σ b => by rw [wantV_some, show gd 6 = some 51 from (by rw [hgd]; rfl)]; rfl)
  try simp (disch := first | omega | assumption | rfl) only [↓reduceIte, go_sem, Nat.reduceLT, Nat.reduceEqDiff, Nat.reduceSub, h2, h3, d4]
  refine Fn.mono (Zone_ok (t := t) hz4 hC.gd (hq.ext hE14) mq) ?_
  rintro _ w5 ⟨hE5, cs, rfl, hres⟩
  obtain ⟨dv, nv, gv, rfl, _⟩ := hres.ex
  have d5 := cellsO_ext hE5 d4
  have hE15 := hE14.trans hE5
  try simp (disch := first | omega | assumption | rfl) only [↓reduceIte, go_sem, Nat.reduceLT, Nat.reduceEqDiff, Nat.reduceSub]
  refine op_field (P := Tryz.prog) (v := vi (lookL o (canonL R) q t).kind) rfl rfl rfl rfl (vr0) rfl ?_
  try simp (disch := first | omega | assumption | rfl) only [↓reduceIte, go_sem, Nat.reduceLT, Nat.reduceEqDiff, Nat.reduceSub, h2, h3, d5, decide_eq_false n4, Bool.not_false, ↓hg6]
  refine Fn.mono (Zone_ok (t := t) (good_zone hC hE15 (ho.ext hE15) ((hcv3.ext hE4).ext hE5) go) hC.gd (hq.ext hE15) mq) ?_
  rintro _ w6 ⟨hE6, cs2, rfl, hres2⟩
  obtain ⟨dv2, nv2, gv2, rfl, _⟩ := hres2.ex
  try simp (disch := first | omega | assumption | rfl) only [↓reduceIte, go_sem, Nat.reduceLT, Nat.reduceEqDiff, Nat.reduceSub, ↓hg6]
  refine op_field (P := Tryz.prog) (v := vi (lookL o (canonL R) q t).kind) rfl rfl rfl rfl (vr0) rfl ?_
  try simp (disch := first | omega | assumption | rfl) only [↓reduceIte, go_sem, Nat.reduceLT, Nat.reduceEqDiff, Nat.reduceSub, decide_eq_false n7, Bool.not_false, ↓hg6]
  refine hK _ _ ?_; clear hK hgd; clear K; try clear gd
  repeat refine c_r ?_
  refine rt0 Tryz.ntmps5 ?_
  exact ⟨rfl, hE15.trans hE6⟩
 | some c =>
 replace hxv : Row w4 xv (c.map vs) := by rw [hcut] at hxv; exact hxv
 obtain ⟨⟨k, hk, hck⟩, hcase⟩ := look_cut hC.srt hu hcut
 have mc : NmM c := hck ▸ mq.drop k
 have kx : ResOk (lookL o (canonL R) c t) := look_ok hC mc
 have ky : ResOk (lookL o (canonL R) q t) := look_ok hC mq
 have kw : ResOk (lookL o (canonL R) q u) := look_ok hC mq
 refine W_cond (t := false) (vr0) (fun h => by cases h) ?_
 intro _
 repeat refine c_r ?_
 refine rq ?_; intro gd K hgd hK
 try simp (disch := first | omega | assumption | rfl) only [↓reduceIte, go_sem, Nat.reduceLT, Nat.reduceEqDiff, Nat.reduceSub, h3, d4]
 refine Fn.mono (Zone_ok (t := t) hz4 hC.gd hxv mc) ?_
 rintro _ w5 ⟨hE5, cs, rfl, hres⟩
 have hE15 := hE14.trans hE5
 have hra := hres.at hE15
 try simp (disch := first | omega | assumption | rfl) only [↓reduceIte, go_sem, Nat.reduceLT, Nat.reduceEqDiff, Nat.reduceSub]
 refine sv_new (P := Tryz.prog) (l := cs) (by rw [hres.cells.1]; rfl) hres.cells.2 (by rw [hres.cells.1]; rfl) rfl ?_
 intro w6 hE6 hs6 hB6
 try simp (disch := first | omega | assumption | rfl) only [↓reduceIte, go_sem, Nat.reduceLT, Nat.reduceEqDiff, Nat.reduceSub]
 refine hK _ _ ?_; clear hK hgd; clear K; try clear gd
 have hE46 := hE5.trans hE6
 have hE16 := hE14.trans hE46
 have d6 := cellsO_ext hE46 d4
 repeat refine c_r ?_
 refine rq ?_; intro gd K hgd hK
 try simp (disch := first | omega | assumption | rfl) only [↓reduceIte, go_sem, Nat.reduceLT, Nat.reduceEqDiff, Nat.reduceSub, h2, h3, d6]
 refine Fn.mono (Zone_ok (t := t) (good_zone hC hE16 (ho.ext hE16) ((hcv3.ext hE4).ext hE46) go) hC.gd (hq.ext hE16) mq) ?_
 rintro _ w7 ⟨hE7, cs2, rfl, hres2⟩
 have hE17 := hE16.trans hE7
 have hrb := hres2.at hE17
 try simp (disch := first | omega | assumption | rfl) only [↓reduceIte, go_sem, Nat.reduceLT, Nat.reduceEqDiff, Nat.reduceSub]
 refine sv_new (P := Tryz.prog) (l := cs2) (by rw [hres2.cells.1]; rfl) hres2.cells.2 (by rw [hres2.cells.1]; rfl) rfl ?_
 intro w8 hE8 hs8 hB8
 try simp (disch := first | omega | assumption | rfl) only [↓reduceIte, go_sem, Nat.reduceLT, Nat.reduceEqDiff, Nat.reduceSub]
 refine hK _ _ ?_; clear hK hgd; clear K; try clear gd
 have hE68 := hE7.trans hE8
 have hE18 := hE16.trans hE68
 have hE48 := hE46.trans hE68
 have d8 := cellsO_ext hE48 d4
 repeat refine c_r ?_
 refine rq ?_; intro gd K hgd hK
 try simp (disch := first | omega | assumption | rfl) only [↓reduceIte, go_sem, Nat.reduceLT, Nat.reduceEqDiff, Nat.reduceSub, h2, h4, d8]
 refine Fn.mono (Zone_ok (t := u) (good_zone hC hE18 (ho.ext hE18) ((hcv3.ext hE4).ext hE48) go) hC.gd (hq.ext hE18) mq) ?_
 rintro _ w9 ⟨hE9, cs3, rfl, hres3⟩
 have hE19 := hE18.trans hE9
 have hrc := hres3.at hE19
 try simp (disch := first | omega | assumption | rfl) only [↓reduceIte, go_sem, Nat.reduceLT, Nat.reduceEqDiff, Nat.reduceSub]
 refine sv_new (P := Tryz.prog) (l := cs3) (by rw [hres3.cells.1]; rfl) hres3.cells.2 (by rw [hres3.cells.1]; rfl) rfl ?_
 intro wA hEA hsA hBA
 try simp (disch := first | omega | assumption | rfl) only [↓reduceIte, go_sem, Nat.reduceLT, Nat.reduceEqDiff, Nat.reduceSub]
 refine hK _ _ ?_; clear hK hgd; clear K; try clear gd
 have hE8A := hE9.trans hEA
 have hE1A := hE18.trans hE8A
 have hE6A := hE68.trans hE8A
 have hxA := hxv.ext (hE46.trans hE6A)
 have hB6A := Ext.at hE6A hB6
 have hB8A := Ext.at hE8A hB8
 obtain ⟨b1, hb1⟩ : ∃ b, w5.heap.size = b := ⟨_, rfl⟩
 obtain ⟨b2, hb2⟩ : ∃ b, w7.heap.size = b := ⟨_, rfl⟩
 obtain ⟨b3, hb3⟩ : ∃ b, w9.heap.size = b := ⟨_, rfl⟩
 rw [hb1] at hB6A
 rw [hb2] at hB8A
 rw [hb3] at hBA
 have hraA := (hra.ext hE6).ext hE6A
 have hrbA := (hrb.ext hE8).ext hE8A
 have hrcA := hrc.ext hEA
 clear hra hrb hrc hres hres2 hres3 hB6 hB8
 rcases hcase with ⟨c1, c2, hne⟩ | ⟨c1, c2⟩
 ·rw [c1 t] at hraA kx
  rw [c2 t] at hrbA ky
  rw [c2 u] at hrcA kw
  have dx := sv_cells (n := 5) hB6A (by obtain ⟨_, _, _, rfl, _⟩ := hraA.ex; rfl)
  have dy := sv_cells (n := 5) hB8A (by obtain ⟨_, _, _, rfl, _⟩ := hrbA.ex; rfl)
  have dw := sv_cells (n := 5) hBA (by obtain ⟨_, _, _, rfl, _⟩ := hrcA.ex; rfl)
  obtain ⟨dv, nv, gv, hcs, a1, a2, a3⟩ := hraA.ex
  have hB6B := hB6A
  rw [hcs] at hB6B
  obtain ⟨ad, cd, hdv, _⟩ := a1.open
  have p0 : cellO wA (some ⟨b1, 0, Option.none⟩) = some (vi (referL (canonL R) c).kind) := cellO_at hB6B rfl
  have p1 : cellO wA (some ⟨b1, 1, Option.none⟩) = some dv := cellO_at hB6B rfl
  have p2 : cellO wA (some ⟨b1, 2, Option.none⟩) = some nv := cellO_at hB6B rfl
  rw [hdv] at p1
  rw [show vi (referL (canonL R) c).kind = vi 4 from rfl] at p0
  have t44 : decide ((4 : Int) = 4) = true := rfl
  have hlen : (0 : Int) < ((referL (canonL R) c).data.length : Int) := by
   have : (referL (canonL R) c).data ≠ [] := hne
   have := List.length_pos_iff.2 this
   omega
  repeat refine c_r ?_
  refine rg5 hb1 p0 Nat.add_zero t44 Bool.not_true ?_
  repeat refine c_r ?_
  refine W_cond (t := false) (vr0) (fun h => by cases h) ?_
  intro _
  repeat refine c_r ?_
  refine rq ?_; intro gd K hgd hK
  have hg3 : ∀ n σ b, wantV gd n σ (some (3, b)) = boolIs (ev n σ (.tmp 95)) b := (fun n σ b => by rw [wantV_some, show gd 3 = some 95 from (by rw [hgd]; rfl)]; rfl); have hg8 : ∀ n σ b, wantV gd n σ (some (8, b)) = boolIs (ev n σ (.tmp 100)) b := (fun n σ b => by rw [wantV_some, show gd 8 = some 100 from (by rw [hgd]; rfl)]; rfl); have hg14 : ∀ n σ b, wantV gd n σ (some (14, b)) = boolIs (ev n σ (.tmp 106)) b := (fun n σ b => by rw [wantV_some, show gd 14 = some 106 from (by rw [hgd]; rfl)]; rfl)
  try simp (disch := first | omega | assumption | rfl) only [↓reduceIte, go_sem, Nat.reduceLT, Nat.reduceEqDiff, Nat.reduceSub, hb1, hb2, hb3, dx, dy]
  refine Fn.mono (LkSame_ok hE1A hraA hrbA kx ky) ?_
  rintro _ y1 ⟨rfl, hy1⟩
  rw [sameRes_self]
  have dy1 := cellsO_ext hy1 dy
  have dw1 := cellsO_ext hy1 dw
  try simp (disch := first | omega | assumption | rfl) only [↓reduceIte, go_sem, Nat.reduceLT, Nat.reduceEqDiff, Nat.reduceSub, dy1, dw1, ↓hg3, ↓hg8, ↓hg14]
  refine Fn.mono (LkSame_ok (hE1A.trans hy1) (hrbA.ext hy1) (hrcA.ext hy1) ky kw) ?_
  rintro _ y2 ⟨rfl, hy2⟩
  rw [sameRes_self]
  have hy02 := hy1.trans hy2
  have p2y := cellO_ext hy02 p2
  try simp (disch := first | omega | assumption | rfl) only [↓reduceIte, go_sem, Nat.reduceLT, Nat.reduceEqDiff, Nat.reduceSub, p2y, Nat.zero_add, ↓hg3, ↓hg8, ↓hg14]
  have cl := mc.len
  refine Fn.mono (Same_ok y2 nv xv c c ((show Row wA nv (c.map vs) from a2).ext hy02) (hxA.ext hy02) mc.LB mc.LB (by omega) (by omega)) ?_
  rintro _ y3 ⟨rfl, hy3⟩
  rw [show decide (foldN c = foldN c) = true from decide_eq_true rfl]
  have p1y := cellO_ext (hy02.trans hy3) p1
  try simp (disch := first | omega | assumption | rfl) only [↓reduceIte, go_sem, Nat.reduceLT, Nat.reduceEqDiff, Nat.reduceSub, p1y, Nat.zero_add, decide_eq_true hlen, ↓hg3, ↓hg8, ↓hg14]
  refine hK _ _ ?_; clear hK hgd; clear K; try clear gd
  repeat refine c_r ?_
  refine rt0 Tryz.ntmps5 ?_
  exact ⟨rfl, (hE1A.trans hy02).trans hy3⟩
 ·have e1 := c1 t
  have e2 := c2 t
  obtain ⟨dv, nv, gv, rfl, _⟩ := hraA.ex
  obtain ⟨dv2, nv2, gv2, rfl, _⟩ := hrbA.ex
  obtain ⟨kx1, hkx⟩ : ∃ x, (lookL o (canonL R) c t).kind = x := ⟨_, rfl⟩
  obtain ⟨ky1, hky⟩ : ∃ x, (lookL o (canonL R) q t).kind = x := ⟨_, rfl⟩
  rw [hkx] at e1 hB6A
  rw [hky] at e2 hB8A
  have p0 : cellO wA (some ⟨b1, 0, Option.none⟩) = some (vi kx1) := cellO_at hB6A rfl
  have q0 : cellO wA (some ⟨b2, 0, Option.none⟩) = some (vi ky1) := cellO_at hB8A rfl
  have f4 : ¬ kx1 = 4 := by omega
  repeat refine c_r ?_
  refine rg5 hb1 p0 Nat.add_zero (decide_eq_false f4) Bool.not_false ?_
  repeat refine c_r ?_
  refine W_cond (t := true) (vr0) ?_ (fun h => by cases h)
  intro _
  obtain ⟨x5, hx5⟩ : ∃ x, decide (kx1 = 5) = x := ⟨_, rfl⟩
  obtain ⟨x6, hx6⟩ : ∃ x, decide (kx1 = 6) = x := ⟨_, rfl⟩
  obtain ⟨y5, hy5⟩ : ∃ x, decide (ky1 = 5) = x := ⟨_, rfl⟩
  obtain ⟨y6, hy6⟩ : ∃ x, decide (ky1 = 6) = x := ⟨_, rfl⟩
  have hyes : ((x5 || x6) && (y5 || y6)) = true := by
   subst hx5 hx6 hy5 hy6
   rcases e1 with e1 | e1 <;> rcases e2 with e2 | e2 <;> simp [e1, e2]
  repeat refine c_r ?_
  refine W_mono (Q := fun e σ' ds' v' => e = .normal ∧ ds' = [] ∧ v' = wA ∧ σ' 10 = .bool ((x5 || x6) && (y5 || y6))) ?_ ?_
  ·clear hyes
   cases x5 <;> cases x6 <;> cases y5 <;> cases y6
   all_goals
    refine rq ?_; intro gd K hgd hK
    have hg3 : ∀ n σ b, wantV gd n σ (some (3, b)) = boolIs (ev n σ (.tmp 77)) b := (fun n σ b => by rw [wantV_some, show gd 3 = some 77 from (by rw [hgd]; rfl)]; rfl); have hg8 : ∀ n σ b, wantV gd n σ (some (8, b)) = boolIs (ev n σ (.tmp 82)) b := (fun n σ b => by rw [wantV_some, show gd 8 = some 82 from (by rw [hgd]; rfl)]; rfl); have hg12 : ∀ n σ b, wantV gd n σ (some (12, b)) = boolIs (ev n σ (.tmp 86)) b := (fun n σ b => by rw [wantV_some, show gd 12 = some 86 from (by rw [hgd]; rfl)]; rfl)
    try simp (disch := first | omega | assumption | rfl) only [↓reduceIte, go_sem, Nat.reduceLT, Nat.reduceEqDiff, Nat.reduceSub, hb1, hb2, p0, q0, Nat.add_zero, hx5, hx6, hy5, hy6, bi_undef, ↓hg3, ↓hg8, ↓hg12]
    refine hK _ _ ?_; clear hK hgd; clear K; try clear gd
    exact ⟨rfl, rfl, rfl, vr0⟩
  rw [hyes]
  rintro _ σ4 _ A4 ⟨rfl, rfl, rfl, h10⟩
  repeat refine c_r ?_
  refine rt1 h10 Tryz.ntmps5 ?_
  exact ⟨rfl, hE1A⟩
end Go.Proofs.YtopbbjdembnfdaaGreat
