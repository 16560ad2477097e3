/-
  Texts of a proof, joined: G5, Y3, M6ed, M6eg, F0, F1, G6, G7, KR2, G8, L3, K25, Y6, L6.
  Conditions: none.
-/
import Derived.Test.YtopbbjdembnfdaaGreatJY08
import Derived.Test.YtopbbjdembnfdaaGreatJY01
import Derived.Test.YtopbbjdembnfdaaGreatJY05
import Derived.Test.YtopbbjdembnfdaaGreatJY02
import Derived.Test.YtopbbjdembnfdaaGreatJY07
import Derived.Test.YtopbbjdembnfdaaGreatJY03
import Derived.Test.YtopbbjdembnfdaaGreatJY04
set_option linter.unusedVariables false
set_option linter.unusedSimpArgs false
set_option linter.defProp false
set_option linter.unnecessarySimpa false
namespace Go.Proofs.YtopbbjdembnfdaaGreat
open Go
set_option maxRecDepth 10000

set_option maxHeartbeats 1000000 in
theorem RsFew_ok {w0 w : World} (hE0 : Ext w0 w) {lv : Value} {R : List RecL} (hl : Rows 7 (RecAt w0) w lv R) :
  Fn Tryz.prog 121 #[lv] w (fun v w' => Ext w w' ∧ ∃ b : Bool, v = .bool b ∧ (b = true → R.length ≤ 60 ∧ ∀ r ∈ R, few r.owner = true ∧ DatF r.dat)) := by
 obtain ⟨aR, cR, rfl, hcR, hgR⟩ := hl.open
 refine enter Tryz.func121 Tryz.ntmps121 rfl rfl ?_
 repeat refine c_r ?_
 refine rg0 ?_
 repeat refine c_r ?_
 refine rg0 ?_
 repeat refine c_r ?_
 refine wc0 ?_ ?_
 ·intro _
  repeat (first | refine c_r ?_ | refine rg0 ?_)
  refine rt0 Tryz.ntmps121 ?_
  exact ⟨Keep.refl _ _, false, rfl, fun h => by cases h⟩
 intro h60
 simp only [decide_eq_false_iff_not] at h60
 repeat refine c_r ?_
 refine rg0 ?_
 repeat refine c_r ?_
 refine W_loop (fun m σ ds A => ds = [] ∧ ∃ (i : Nat), i + m = R.length ∧ σ 3 = vi i ∧ σ 0 = .slice aR R.length cR ∧ Ext w A ∧ ∀ j (h : j < R.length), j < i → few R[j].owner = true ∧ DatF R[j].dat) R.length ?_ ?_
 ·exact ⟨rfl, 0, by omega, vr0, vq0, Keep.refl _ _, fun j h hj => absurd hj (by omega)⟩
 rintro m σ ds A ⟨rfl, i, him, h3, h0, hEA, hlow⟩
 repeat refine c_r ?_
 refine rg2 h3 h0 ?_
 repeat refine c_r ?_
 refine wc0 ?_ ?_
 ·intro hlt
  simp only [decide_eq_true_eq] at hlt
  have hi : i < R.length := by omega
  have hi0 : (0 : Int) ≤ (i : Int) := by omega
  have hi1 : (i : Int) < (R.length : Int) := by omega
  have hi1' : (i : Int) + 1 = ((i + 1 : Nat) : Int) := by push_cast; rfl
  obtain ⟨cr, hcr, hRr⟩ := hgR i hi
  obtain ⟨r, hr⟩ : ∃ r, R[i] = r := ⟨_, rfl⟩
  rw [hr] at hRr
  obtain ⟨ow, dsc, hcrE, o1, o2, g0, g1, g2, gd⟩ := hRr.cells
  obtain ⟨xR, rfl⟩ := Option.isSome_iff_exists.1 (cellsO_some hcr)
  obtain ⟨xi, hxi⟩ : ∃ xi, adr (some xR) (i * 7) = some xi := ⟨_, rfl⟩
  rw [hxi] at hcr
  obtain ⟨xd, hxd⟩ : ∃ xd, adr (some xi) 2 = some xd := ⟨_, rfl⟩
  have rc : ∀ {x}, Ext w x → cellO x (some xi) = some ow ∧ cellsO x (some xd) 5 = some dsc := fun {x} hx => by
   have hcx := cellsO_ext hx hcr
   have e0 := cell_of_cells hcx g0
   have e5 := cells_drop (m := 2) (k := 5) hcx
   rw [adr_zero] at e0
   rw [hxd, gd] at e5
   exact ⟨e0, e5⟩
  obtain ⟨c0, _⟩ := rc hEA
  have hwA := hE0.trans hEA
  repeat refine c_r ?_
  refine W_mono (Q := fun e σ' ds' v' => e = .normal ∧ ds' = [] ∧ σ' 3 = vi i ∧ σ' 0 = .slice (some xR) R.length cR ∧ Ext A v' ∧ ∃ bb, σ' 28 = .bool bb ∧ (bb = false → few r.owner = true ∧ DatF r.dat)) ?_ ?_
  ·cases hf : few r.owner with
   | false =>
    refine rq ?_; intro gd K hgd hK
    have hg7 : ∀ n σ b, wantV gd n σ (some (7, b)) = boolIs (ev n σ (.tmp 20)) b := (fun n σ b => by rw [wantV_some, show gd 7 = some 20 from (by rw [hgd]; rfl)]; rfl)
    try simp (disch := first | omega | assumption | rfl) only [↓reduceIte, go_sem, Nat.reduceLT, Nat.reduceEqDiff, Nat.reduceSub, h0, h3, hi0, hi1, hxi, c0, adr_zero]
    refine Fn.mono (Few_ok A ow r.owner (o1.ext hwA)) ?_
    rintro _ A2 ⟨rfl, hA2⟩
    rw [hf]
    try simp (disch := first | omega | assumption | rfl) only [↓reduceIte, go_sem, Nat.reduceLT, Nat.reduceEqDiff, Nat.reduceSub, Bool.not_false, ↓hg7]
    refine hK _ _ ?_; clear hK hgd; clear K; try clear gd
    exact ⟨rfl, rfl, (vq1 h3), (vq1 h0), hA2, _, vr0, fun h => by cases h⟩
   | true =>
    refine rq ?_; intro gd K hgd hK
    have hg7 : ∀ n σ b, wantV gd n σ (some (7, b)) = boolIs (ev n σ (.tmp 20)) b := (fun n σ b => by rw [wantV_some, show gd 7 = some 20 from (by rw [hgd]; rfl)]; rfl)
    try simp (disch := first | omega | assumption | rfl) only [↓reduceIte, go_sem, Nat.reduceLT, Nat.reduceEqDiff, Nat.reduceSub, h0, h3, hi0, hi1, hxi, c0, adr_zero]
    refine Fn.mono (Few_ok A ow r.owner (o1.ext hwA)) ?_
    rintro _ A2 ⟨rfl, hA2⟩
    rw [hf]
    obtain ⟨_, c5⟩ := rc (hEA.trans hA2)
    try simp (disch := first | omega | assumption | rfl) only [↓reduceIte, go_sem, Nat.reduceLT, Nat.reduceEqDiff, Nat.reduceSub, h0, h3, hi0, hi1, hxi, hxd, c5, Bool.not_true, ↓hg7]
    refine Fn.mono (DFew_ok (hwA.trans hA2) o2) ?_
    rintro _ A3 ⟨hA3, b, rfl, hb⟩
    try simp (disch := first | omega | assumption | rfl) only [↓reduceIte, go_sem, Nat.reduceLT, Nat.reduceEqDiff, Nat.reduceSub, ↓hg7]
    refine hK _ _ ?_; clear hK hgd; clear K; try clear gd
    exact ⟨rfl, rfl, (vq1 h3), (vq1 h0), hA2.trans hA3, _, vr0, fun h => ⟨rfl, hb (by simpa using h)⟩⟩
  clear h3 h0
  rintro _ σ1 _ A1 ⟨rfl, rfl, h3, h0, hA1, bb, h28, hbb⟩
  repeat refine c_r ?_
  refine W_cond (t := bb) ((vq1 h28)) ?_ ?_
  ·intro _
   repeat (first | refine c_r ?_ | refine rg0 ?_)
   refine rt0 Tryz.ntmps121 ?_
   exact ⟨hEA.trans hA1, false, rfl, fun h => by cases h⟩
  ·intro ht
   repeat refine c_r ?_
   refine rg2 h3 hi1' ?_
   repeat refine c_r ?_
   refine ⟨m - 1, by omega, rfl, i + 1, by omega, vq0, (vq1 h0), hEA.trans hA1, fun j hj hji => ?_⟩
   by_cases hj2 : j = i
   ·subst hj2; rw [hr]; exact hbb ht
   ·exact hlow j hj (by omega)
 ·intro hge
  simp only [decide_eq_false_iff_not] at hge
  repeat (first | refine c_r ?_ | refine rg0 ?_)
  refine rt0 Tryz.ntmps121 ?_
  refine ⟨hEA, true, rfl, fun _ => ⟨by omega, fun r hr => ?_⟩⟩
  obtain ⟨j, hj, rfl⟩ := List.getElem_of_mem hr
  exact hlow j hj (by omega)

structure GoodRs (R : List RecL) : Prop where
 len : R.length ≤ 60
 few : ∀ r ∈ R, few r.owner = true ∧ DatF r.dat
 own : ∀ r ∈ R, checkN r.owner = 0
 names : ∀ r ∈ R, ∀ n ∈ r.dat.names, checkN n = 0
 lead : ∀ r ∈ R, leadT r.dat.ty → r.dat.names.length = 1

set_option maxHeartbeats 1000000 in
theorem RsGood_ok {w0 w : World} (hE0 : Ext w0 w) {lv : Value} {R : List RecL} (hl : Rows 7 (RecAt w0) w lv R) :
  Fn Tryz.prog 55 #[lv] w (fun v w' => Ext w w' ∧ ∃ b : Bool, v = .bool b ∧ (b = true → GoodRs R)) := by
 obtain ⟨aR, cR, rfl, hcR, hgR⟩ := hl.open
 refine enter Tryz.func55 Tryz.ntmps55 rfl rfl ?_
 repeat refine c_r ?_
 refine rg0 ?_
 repeat refine c_r ?_
 refine rq ?_; intro gd K hgd hK
 try simp (disch := first | omega | assumption | rfl) only [↓reduceIte, go_sem, Nat.reduceLT, Nat.reduceEqDiff, Nat.reduceSub]
 refine Fn.mono (RsFew_ok hE0 hl) ?_
 rintro _ w1 ⟨hE1, b, rfl, hb⟩
 try simp (disch := first | omega | assumption | rfl) only [↓reduceIte, go_sem, Nat.reduceLT, Nat.reduceEqDiff, Nat.reduceSub]
 refine hK _ _ ?_; clear hK hgd; clear K; try clear gd
 repeat refine c_r ?_
 refine W_cond (t := !b) (vr0) ?_ ?_
 ·intro _
  repeat (first | refine c_r ?_ | refine rg0 ?_)
  refine rt0 Tryz.ntmps55 ?_
  exact ⟨hE1, false, rfl, fun h => by cases h⟩
 intro hb2
 obtain ⟨hRl, hRf⟩ := hb (by simpa using hb2)
 repeat refine c_r ?_
 refine rg0 ?_
 repeat refine c_r ?_
 refine W_loop (fun m σ ds A => ds = [] ∧ ∃ (i : Nat), i + m = R.length ∧ σ 3 = vi i ∧ σ 0 = .slice aR R.length cR ∧ Ext w A ∧ ∀ j (h : j < R.length), j < i → checkN R[j].owner = 0 ∧ (∀ n ∈ R[j].dat.names, checkN n = 0) ∧ (leadT R[j].dat.ty → R[j].dat.names.length = 1)) R.length ?_ ?_
 ·exact ⟨rfl, 0, by omega, vr0, vq0, hE1, fun j h hj => absurd hj (by omega)⟩
 rintro m σ ds A ⟨rfl, i, him, h3, h0, hEA, hlow⟩
 repeat refine c_r ?_
 refine rg2 h3 h0 ?_
 repeat refine c_r ?_
 refine wc0 ?_ ?_
 ·intro hlt
  simp only [decide_eq_true_eq] at hlt
  have hi : i < R.length := by omega
  have hi0 : (0 : Int) ≤ (i : Int) := by omega
  have hi1 : (i : Int) < (R.length : Int) := by omega
  have hi1' : (i : Int) + 1 = ((i + 1 : Nat) : Int) := by push_cast; rfl
  obtain ⟨cr, hcr, hRr⟩ := hgR i hi
  obtain ⟨r, hr⟩ : ∃ r, R[i] = r := ⟨_, rfl⟩
  rw [hr] at hRr
  obtain ⟨f1, f2⟩ := hRf r (hr ▸ List.getElem_mem hi)
  obtain ⟨xR, rfl⟩ := Option.isSome_iff_exists.1 (cellsO_some hcr)
  obtain ⟨xi, hxi⟩ : ∃ xi, adr (some xR) (i * 7) = some xi := ⟨_, rfl⟩
  rw [hxi] at hcr
  have hcA := cellsO_ext hEA hcr
  have hwA := hE0.trans hEA
  repeat refine c_r ?_
  refine rq ?_; intro gd K hgd hK
  try simp (disch := first | omega | assumption | rfl) only [↓reduceIte, go_sem, Nat.reduceLT, Nat.reduceEqDiff, Nat.reduceSub, h0, h3, hi0, hi1, hxi, hcA]
  refine Fn.mono (RcOf_ok hwA hRr f2.nn) ?_
  rintro _ A2 ⟨hA2, cs', nm', rfl, hx⟩
  try simp (disch := first | omega | assumption | rfl) only [↓reduceIte, go_sem, Nat.reduceLT, Nat.reduceEqDiff, Nat.reduceSub]
  refine Fn.mono (RCheckRec_ok (Keep.refl _ A2) (hx.at (hwA.trans hA2)) f2 (few_f f1)) ?_
  rintro _ A3 ⟨hA3, e, rfl, he⟩
  try simp (disch := first | omega | assumption | rfl) only [↓reduceIte, go_sem, Nat.reduceLT, Nat.reduceEqDiff, Nat.reduceSub]
  refine hK _ _ ?_; clear hK hgd; clear K; try clear gd
  repeat refine c_r ?_
  by_cases h0e : e = 0
  ·refine W_cond (t := !decide (e = 0)) (vr0) (fun h => by rw [decide_eq_true h0e] at h; cases h) ?_
   intro _
   repeat refine c_r ?_
   refine rg2 h3 hi1' ?_
   repeat refine c_r ?_
   refine ⟨m - 1, by omega, rfl, i + 1, by omega, vq0, (vq1 h0), hEA.trans (hA2.trans hA3), fun j hj hji => ?_⟩
   by_cases hj2 : j = i
   ·subst hj2; rw [hr]; exact he h0e
   ·exact hlow j hj (by omega)
  ·refine W_cond (t := !decide (e = 0)) (vr0) ?_ (fun h => by rw [decide_eq_false h0e] at h; cases h)
   intro _
   repeat (first | refine c_r ?_ | refine rg0 ?_)
   refine rt0 Tryz.ntmps55 ?_
   exact ⟨hEA.trans (hA2.trans hA3), false, rfl, fun h => by cases h⟩
 ·intro hge
  simp only [decide_eq_false_iff_not] at hge
  repeat (first | refine c_r ?_ | refine rg0 ?_)
  refine rt0 Tryz.ntmps55 ?_
  have hall : ∀ r ∈ R, checkN r.owner = 0 ∧ (∀ n ∈ r.dat.names, checkN n = 0) ∧ (leadT r.dat.ty → r.dat.names.length = 1) := fun r hr => by
   obtain ⟨j, hj, rfl⟩ := List.getElem_of_mem hr
   exact hlow j hj (by omega)
  exact ⟨hEA, true, rfl, fun _ => ⟨hRl, hRf, fun r hr => (hall r hr).1, fun r hr => (hall r hr).2.1, fun r hr => (hall r hr).2.2⟩⟩

theorem ZGood_ok {w0 w : World} (hE0 : Ext w0 w) {ov lv : Value} {o : Nm} {R : List RecL} (ho : Row w ov (o.map vs)) (hl : Rows 7 (RecAt w0) w lv R) :
  Fn Tryz.prog 16 #[ov, lv] w (fun v w' => Ext w w' ∧ ∃ b : Bool, v = .bool b ∧ (b = true → goodN o = true ∧ GoodRs R)) := by
 refine enter Tryz.func16 Tryz.ntmps16 rfl rfl ?_
 repeat refine c_r ?_
 refine rg0 ?_
 repeat refine c_r ?_
 cases hg : goodN o with
 | false =>
  refine rq ?_; intro gd K hgd hK
  have hg2 : ∀ n σ b, wantV gd n σ (some (2, b)) = boolIs (ev n σ (.tmp 7)) b := (fun n σ b => by rw [wantV_some, show gd 2 = some 7 from (by rw [hgd]; rfl)]; rfl)
  try simp (disch := first | omega | assumption | rfl) only [↓reduceIte, go_sem, Nat.reduceLT, Nat.reduceEqDiff, Nat.reduceSub]
  refine Fn.mono (NGood_ok w ov o ho) ?_
  rintro _ w1 ⟨rfl, hE1⟩
  rw [hg]
  try simp (disch := first | omega | assumption | rfl) only [↓reduceIte, go_sem, Nat.reduceLT, Nat.reduceEqDiff, Nat.reduceSub, ↓hg2]
  refine hK _ _ ?_; clear hK hgd; clear K; try clear gd
  repeat refine c_r ?_
  refine rt0 Tryz.ntmps16 ?_
  exact ⟨hE1, false, rfl, fun h => by cases h⟩
 | true =>
  refine rq ?_; intro gd K hgd hK
  have hg2 : ∀ n σ b, wantV gd n σ (some (2, b)) = boolIs (ev n σ (.tmp 7)) b := (fun n σ b => by rw [wantV_some, show gd 2 = some 7 from (by rw [hgd]; rfl)]; rfl)
  try simp (disch := first | omega | assumption | rfl) only [↓reduceIte, go_sem, Nat.reduceLT, Nat.reduceEqDiff, Nat.reduceSub]
  refine Fn.mono (NGood_ok w ov o ho) ?_
  rintro _ w1 ⟨rfl, hE1⟩
  rw [hg]
  try simp (disch := first | omega | assumption | rfl) only [↓reduceIte, go_sem, Nat.reduceLT, Nat.reduceEqDiff, Nat.reduceSub, ↓hg2]
  refine Fn.mono (RsGood_ok (hE0.trans hE1) (hl.ext hE1)) ?_
  rintro _ w2 ⟨hE2, b, rfl, hb⟩
  try simp (disch := first | omega | assumption | rfl) only [↓reduceIte, go_sem, Nat.reduceLT, Nat.reduceEqDiff, Nat.reduceSub, ↓hg2]
  refine hK _ _ ?_; clear hK hgd; clear K; try clear gd
  repeat refine c_r ?_
  refine rt0 Tryz.ntmps16 ?_
  exact ⟨hE1.trans hE2, b, rfl, fun h => ⟨rfl, hb h⟩⟩
end Go.Proofs.YtopbbjdembnfdaaGreat

namespace Go.Proofs.YtopbbjdembnfdaaGreat
open Go

def eqAll {α : Type} (p : α → α → Bool) : List α → List α → Bool
 | [], [] => true
 | x :: l, y :: m => p x y && eqAll p l m
 | _, _ => false
theorem eqAll_len {α : Type} {p : α → α → Bool} : ∀ {l m : List α}, l.length ≠ m.length → eqAll p l m = false
 | [], [], h => absurd rfl h
 | [], _ :: _, _ => rfl
 | _ :: _, [], _ => rfl
 | x :: l, y :: m, h => by
  simp only [eqAll]
  rw [eqAll_len (fun e => h (by rw [List.length_cons, List.length_cons, e])), Bool.and_false]
theorem eqAll_drop {α : Type} {p : α → α → Bool} {l m : List α} {i : Nat} (hl : i < l.length) (hm : i < m.length) : eqAll p (l.drop i) (m.drop i) = (p l[i] m[i] && eqAll p (l.drop (i + 1)) (m.drop (i + 1))) := by
 rw [List.drop_eq_getElem_cons hl, List.drop_eq_getElem_cons hm]; rfl
theorem eqAll_self {α : Type} {p : α → α → Bool} (h : ∀ x, p x x = true) : ∀ l : List α, eqAll p l l = true
 | [] => rfl
 | x :: l => by simp only [eqAll]; rw [h x, eqAll_self h l]; rfl
end Go.Proofs.YtopbbjdembnfdaaGreat

namespace Go.Proofs.YtopbbjdembnfdaaGreat.P_ed
open Go Go.Proofs.YtopbbjdembnfdaaGreat
set_option maxRecDepth 10000

theorem EqualFunc_ok {α : Type} {w : World} {C D : List Value → α → Prop} {uv vv : Value} {xs ys : List α} {g : FuncId} {p : α → α → Bool} (hC : Shape 5 C) (hD : Shape 5 D) (hx : Rows 5 C w uv xs) (hy : Rows 5 D w vv ys) (hcal : callable Tryz.prog g = true)
  (hcall : ∀ (A : World) (cs ds : List Value) (x y : α), Ext w A → x ∈ xs → y ∈ ys → C cs x → D ds y → Fn Tryz.prog g #[.agg cs.toArray, .agg ds.toArray] A (fun v A' => v = .bool (p x y) ∧ Ext A A')) (hxl : xs.length ≤ 1000000000) (hyl : ys.length ≤ 1000000000) :
  Fn Tryz.prog 79 #[uv, vv, .func (.func g) #[] #[]] w (fun v w' => v = .bool (eqAll p xs ys) ∧ Ext w w') := by
 obtain ⟨ax, cx, rfl, hcx, hgx⟩ := hx.open
 obtain ⟨ay, cy, rfl, hcy, hgy⟩ := hy.open
 refine enter Tryz.func79 Tryz.ntmps79 rfl rfl ?_
 repeat refine c_r ?_
 refine rg0 ?_
 repeat refine c_r ?_
 refine rg0 ?_
 repeat refine c_r ?_
 refine wc0 ?_ ?_
 ·intro hne
  simp only [Bool.not_eq_true', decide_eq_false_iff_not] at hne
  repeat (first | refine c_r ?_ | refine rg0 ?_)
  refine rt0 Tryz.ntmps79 ?_
  exact ⟨by rw [eqAll_len (by omega)], Keep.refl _ _⟩
 intro heq
 simp only [Bool.not_eq_false', decide_eq_true_eq] at heq
 have hlen : xs.length = ys.length := by omega
 repeat refine c_r ?_
 refine rg0 ?_
 repeat refine c_r ?_
 refine W_loop (fun m σ ds A => ds = [] ∧ ∃ (i : Nat), i + m = xs.length ∧ σ 17 = vi i ∧ σ 16 = vi xs.length ∧ σ 15 = .slice ax xs.length cx ∧ σ 1 = .slice ay ys.length cy ∧ σ 2 = .func (.func g) #[] #[] ∧ Ext w A ∧ eqAll p xs ys = eqAll p (xs.drop i) (ys.drop i)) xs.length ?_ ?_
 ·exact ⟨rfl, 0, by omega, vr0, vr0, vq0, vq0, vq0, Keep.refl _ _, rfl⟩
 rintro m σ ds A ⟨rfl, i, him, h17, h16, h15, h1, h2, hEA, hinv⟩
 repeat refine c_r ?_
 refine rg2 h17 h16 ?_
 repeat refine c_r ?_
 refine wc0 ?_ ?_
 ·intro hlt
  simp only [decide_eq_true_eq] at hlt
  have hix : i < xs.length := by omega
  have hiy : i < ys.length := by omega
  have hi0 : (0 : Int) ≤ (i : Int) := by omega
  have hi1 : (i : Int) < (xs.length : Int) := by omega
  have hi2 : (i : Int) < (ys.length : Int) := by omega
  have hi1' : (i : Int) + 1 = ((i + 1 : Nat) : Int) := by push_cast; rfl
  obtain ⟨cs, hcs, hCx⟩ := hgx i hix
  obtain ⟨es, hes, hDy⟩ := hgy i hiy
  obtain ⟨zx, rfl⟩ := Option.isSome_iff_exists.1 (cellsO_some hcs)
  obtain ⟨zy, rfl⟩ := Option.isSome_iff_exists.1 (cellsO_some hes)
  have d1 := cellsO_ext hEA hcs
  repeat refine c_r ?_
  refine rq ?_; intro gd K hgd hK
  try simp (disch := first | omega | assumption | rfl) only [↓reduceIte, go_sem, Nat.reduceLT, Nat.reduceEqDiff, Nat.reduceSub, h15, h17, hi0, hi1, d1]
  refine sv_all (P := Tryz.prog) (t := 59) (l := cs) (new_block A _) (hC.len hCx) (hC.ones hCx) (by rw [hC.len hCx]; rfl) rfl ?_
  intro A3 hs5 hB5 hk5
  try simp (disch := first | omega | assumption | rfl) only [↓reduceIte, go_sem, Nat.reduceLT, Nat.reduceEqDiff, Nat.reduceSub]
  refine hK _ _ ?_; clear hK hgd; clear K; try clear gd
  rw [new_size] at hs5
  have hE5 : Ext A A3 := Keep.to_ext (Ext.alloc A _) rfl (fun b hb => by omega) hk5
  clear hk5
  have d2 := cellsO_ext (hEA.trans hE5) hes
  repeat refine c_r ?_
  refine rq ?_; intro gd K hgd hK
  try simp (disch := first | omega | assumption | rfl) only [↓reduceIte, go_sem, Nat.reduceLT, Nat.reduceEqDiff, Nat.reduceSub, h1, hi0, hi2, d2]
  refine sv_all (P := Tryz.prog) (t := 59) (l := es) (new_block A3 _) (hD.len hDy) (hD.ones hDy) (by rw [hD.len hDy]; rfl) rfl ?_
  intro A4 hs6 hB6 hk6
  try simp (disch := first | omega | assumption | rfl) only [↓reduceIte, go_sem, Nat.reduceLT, Nat.reduceEqDiff, Nat.reduceSub]
  refine hK _ _ ?_; clear hK hgd; clear K; try clear gd
  rw [new_size] at hs6
  have hE6 : Ext A3 A4 := Keep.to_ext (Ext.alloc A3 _) rfl (fun b hb => by omega) hk6
  clear hk6
  have q1 := sv_cells (n := 5) (hE6.at hB5) (hC.len hCx).symm
  have q2 := sv_cells (n := 5) hB6 (hD.len hDy).symm
  have hst := eqAll_drop (p := p) hix hiy
  repeat refine c_r ?_
  refine rq ?_; intro gd K hgd hK
  try simp (disch := first | omega | assumption | rfl) only [↓reduceIte, go_sem, Nat.reduceLT, Nat.reduceEqDiff, Nat.reduceSub, h2, q1, q2]
  refine call_of hcal (Fn.mono (hcall A4 cs es xs[i] ys[i] ((hEA.trans hE5).trans hE6) (List.getElem_mem hix) (List.getElem_mem hiy) hCx hDy) ?_)
  rintro _ A5 ⟨rfl, hE7⟩
  try simp (disch := first | omega | assumption | rfl) only [↓reduceIte, go_sem, Nat.reduceLT, Nat.reduceEqDiff, Nat.reduceSub]
  refine hK _ _ ?_; clear hK hgd; clear K; try clear gd
  repeat refine c_r ?_
  refine wc0 ?_ ?_
  ·intro hf
   simp only [Bool.not_eq_true'] at hf
   repeat (first | refine c_r ?_ | refine rg0 ?_)
   refine rt0 Tryz.ntmps79 ?_
   exact ⟨by rw [hinv, hst, hf, Bool.false_and], ((hEA.trans hE5).trans hE6).trans hE7⟩
  ·intro ht
   simp only [Bool.not_eq_false'] at ht
   repeat refine c_r ?_
   refine rg2 h17 hi1' ?_
   repeat refine c_r ?_
   exact ⟨m - 1, by omega, rfl, i + 1, by omega, vq0, (vq1 h16), (vq1 h15), (vq1 h1), (vq1 h2), ((hEA.trans hE5).trans hE6).trans hE7, by rw [hinv, hst, ht, Bool.true_and]⟩
 ·intro hge
  simp only [decide_eq_false_iff_not] at hge
  have e1 : xs.drop i = [] := List.drop_eq_nil_of_le (by omega)
  have e2 : ys.drop i = [] := List.drop_eq_nil_of_le (by omega)
  repeat (first | refine c_r ?_ | refine rg0 ?_)
  refine rt0 Tryz.ntmps79 ?_
  exact ⟨by rw [hinv, e1, e2]; rfl, hEA⟩
end Go.Proofs.YtopbbjdembnfdaaGreat.P_ed

namespace Go.Proofs.YtopbbjdembnfdaaGreat.P_eg
open Go Go.Proofs.YtopbbjdembnfdaaGreat
set_option maxRecDepth 10000

theorem EqualFunc_ok {α : Type} {w : World} {C D : List Value → α → Prop} {uv vv : Value} {xs ys : List α} {g : FuncId} {p : α → α → Bool} (hC : Shape 2 C) (hD : Shape 2 D) (hx : Rows 2 C w uv xs) (hy : Rows 2 D w vv ys) (hcal : callable Tryz.prog g = true)
  (hcall : ∀ (A : World) (cs ds : List Value) (x y : α), Ext w A → x ∈ xs → y ∈ ys → C cs x → D ds y → Fn Tryz.prog g #[.agg cs.toArray, .agg ds.toArray] A (fun v A' => v = .bool (p x y) ∧ Ext A A')) (hxl : xs.length ≤ 1000000000) (hyl : ys.length ≤ 1000000000) :
  Fn Tryz.prog 81 #[uv, vv, .func (.func g) #[] #[]] w (fun v w' => v = .bool (eqAll p xs ys) ∧ Ext w w') := by
 obtain ⟨ax, cx, rfl, hcx, hgx⟩ := hx.open
 obtain ⟨ay, cy, rfl, hcy, hgy⟩ := hy.open
 refine enter Tryz.func81 Tryz.ntmps81 rfl rfl ?_
 repeat refine c_r ?_
 refine rg0 ?_
 repeat refine c_r ?_
 refine rg0 ?_
 repeat refine c_r ?_
 refine wc0 ?_ ?_
 ·intro hne
  simp only [Bool.not_eq_true', decide_eq_false_iff_not] at hne
  repeat (first | refine c_r ?_ | refine rg0 ?_)
  refine rt0 Tryz.ntmps81 ?_
  exact ⟨by rw [eqAll_len (by omega)], Keep.refl _ _⟩
 intro heq
 simp only [Bool.not_eq_false', decide_eq_true_eq] at heq
 have hlen : xs.length = ys.length := by omega
 repeat refine c_r ?_
 refine rg0 ?_
 repeat refine c_r ?_
 refine W_loop (fun m σ ds A => ds = [] ∧ ∃ (i : Nat), i + m = xs.length ∧ σ 17 = vi i ∧ σ 16 = vi xs.length ∧ σ 15 = .slice ax xs.length cx ∧ σ 1 = .slice ay ys.length cy ∧ σ 2 = .func (.func g) #[] #[] ∧ Ext w A ∧ eqAll p xs ys = eqAll p (xs.drop i) (ys.drop i)) xs.length ?_ ?_
 ·exact ⟨rfl, 0, by omega, vr0, vr0, vq0, vq0, vq0, Keep.refl _ _, rfl⟩
 rintro m σ ds A ⟨rfl, i, him, h17, h16, h15, h1, h2, hEA, hinv⟩
 repeat refine c_r ?_
 refine rg2 h17 h16 ?_
 repeat refine c_r ?_
 refine wc0 ?_ ?_
 ·intro hlt
  simp only [decide_eq_true_eq] at hlt
  have hix : i < xs.length := by omega
  have hiy : i < ys.length := by omega
  have hi0 : (0 : Int) ≤ (i : Int) := by omega
  have hi1 : (i : Int) < (xs.length : Int) := by omega
  have hi2 : (i : Int) < (ys.length : Int) := by omega
  have hi1' : (i : Int) + 1 = ((i + 1 : Nat) : Int) := by push_cast; rfl
  obtain ⟨cs, hcs, hCx⟩ := hgx i hix
  obtain ⟨es, hes, hDy⟩ := hgy i hiy
  obtain ⟨zx, rfl⟩ := Option.isSome_iff_exists.1 (cellsO_some hcs)
  obtain ⟨zy, rfl⟩ := Option.isSome_iff_exists.1 (cellsO_some hes)
  have d1 := cellsO_ext hEA hcs
  repeat refine c_r ?_
  refine rq ?_; intro gd K hgd hK
  try simp (disch := first | omega | assumption | rfl) only [↓reduceIte, go_sem, Nat.reduceLT, Nat.reduceEqDiff, Nat.reduceSub, h15, h17, hi0, hi1, d1]
  refine sv_all (P := Tryz.prog) (t := 112) (l := cs) (new_block A _) (hC.len hCx) (hC.ones hCx) (by rw [hC.len hCx]; rfl) rfl ?_
  intro A3 hs5 hB5 hk5
  try simp (disch := first | omega | assumption | rfl) only [↓reduceIte, go_sem, Nat.reduceLT, Nat.reduceEqDiff, Nat.reduceSub]
  refine hK _ _ ?_; clear hK hgd; clear K; try clear gd
  rw [new_size] at hs5
  have hE5 : Ext A A3 := Keep.to_ext (Ext.alloc A _) rfl (fun b hb => by omega) hk5
  clear hk5
  have d2 := cellsO_ext (hEA.trans hE5) hes
  repeat refine c_r ?_
  refine rq ?_; intro gd K hgd hK
  try simp (disch := first | omega | assumption | rfl) only [↓reduceIte, go_sem, Nat.reduceLT, Nat.reduceEqDiff, Nat.reduceSub, h1, hi0, hi2, d2]
  refine sv_all (P := Tryz.prog) (t := 112) (l := es) (new_block A3 _) (hD.len hDy) (hD.ones hDy) (by rw [hD.len hDy]; rfl) rfl ?_
  intro A4 hs6 hB6 hk6
  try simp (disch := first | omega | assumption | rfl) only [↓reduceIte, go_sem, Nat.reduceLT, Nat.reduceEqDiff, Nat.reduceSub]
  refine hK _ _ ?_; clear hK hgd; clear K; try clear gd
  rw [new_size] at hs6
  have hE6 : Ext A3 A4 := Keep.to_ext (Ext.alloc A3 _) rfl (fun b hb => by omega) hk6
  clear hk6
  have q1 := sv_cells (n := 2) (hE6.at hB5) (hC.len hCx).symm
  have q2 := sv_cells (n := 2) hB6 (hD.len hDy).symm
  have hst := eqAll_drop (p := p) hix hiy
  repeat refine c_r ?_
  refine rq ?_; intro gd K hgd hK
  try simp (disch := first | omega | assumption | rfl) only [↓reduceIte, go_sem, Nat.reduceLT, Nat.reduceEqDiff, Nat.reduceSub, h2, q1, q2]
  refine call_of hcal (Fn.mono (hcall A4 cs es xs[i] ys[i] ((hEA.trans hE5).trans hE6) (List.getElem_mem hix) (List.getElem_mem hiy) hCx hDy) ?_)
  rintro _ A5 ⟨rfl, hE7⟩
  try simp (disch := first | omega | assumption | rfl) only [↓reduceIte, go_sem, Nat.reduceLT, Nat.reduceEqDiff, Nat.reduceSub]
  refine hK _ _ ?_; clear hK hgd; clear K; try clear gd
  repeat refine c_r ?_
  refine wc0 ?_ ?_
  ·intro hf
   simp only [Bool.not_eq_true'] at hf
   repeat (first | refine c_r ?_ | refine rg0 ?_)
   refine rt0 Tryz.ntmps81 ?_
   exact ⟨by rw [hinv, hst, hf, Bool.false_and], ((hEA.trans hE5).trans hE6).trans hE7⟩
  ·intro ht
   simp only [Bool.not_eq_false'] at ht
   repeat refine c_r ?_
   refine rg2 h17 hi1' ?_
   repeat refine c_r ?_
   exact ⟨m - 1, by omega, rfl, i + 1, by omega, vq0, (vq1 h16), (vq1 h15), (vq1 h1), (vq1 h2), ((hEA.trans hE5).trans hE6).trans hE7, by rw [hinv, hst, ht, Bool.true_and]⟩
 ·intro hge
  simp only [decide_eq_false_iff_not] at hge
  have e1 : xs.drop i = [] := List.drop_eq_nil_of_le (by omega)
  have e2 : ys.drop i = [] := List.drop_eq_nil_of_le (by omega)
  repeat (first | refine c_r ?_ | refine rg0 ?_)
  refine rt0 Tryz.ntmps81 ?_
  exact ⟨by rw [hinv, e1, e2]; rfl, hEA⟩
end Go.Proofs.YtopbbjdembnfdaaGreat.P_eg

namespace Go.Proofs.YtopbbjdembnfdaaGreat
open Go
set_option maxRecDepth 10000

def sameD (a b : DatL) : Bool := decide (cmpD a b = 0)
def sameG (x y : Nm × List DatL) : Bool := decide (foldN x.1 = foldN y.1) && eqAll sameD x.2 y.2
def sameRes (a b : ResL) : Bool := decide (a.kind = b.kind) && (a.wild == b.wild && (decide (foldN a.name = foldN b.name) && (eqAll sameD a.data b.data && eqAll sameG a.glue b.glue)))
structure ResOk (r : ResL) : Prop where
 nm : NmS r.name
 dat : ∀ d ∈ r.data, DatOk d
 dl : r.data.length ≤ 1000000000
 gl : r.glue.length ≤ 1000000000
 g : ∀ x ∈ r.glue, NmS x.1 ∧ (∀ d ∈ x.2, DatOk d) ∧ x.2.length ≤ 1000000000

theorem GlC.cells {w0 w : World} {cs : List Value} {x : Nm × List DatL} (h : GlC w0 w cs x) : cs.length = 2 ∧ ∀ q ∈ cs, one q = true := by
 obtain ⟨hv, dv, rfl, ⟨a, c, rfl, _⟩, h2⟩ := h
 obtain ⟨a2, c2, rfl, _⟩ := h2.open
 refine ⟨rfl, fun q hq => ?_⟩
 simp at hq
 rcases hq with rfl | rfl <;> rfl
theorem glc_shape (w0 w : World) : Shape 2 (GlC w0 w) := ⟨fun h => h.cells.1, fun h => h.cells.2⟩

theorem SameDs_ok {w0 w : World} (hE0 : Ext w0 w) {uv vv : Value} {xs ys : List DatL} (hx : Rows 5 (DatAt w0) w uv xs) (hy : Rows 5 (DatAt w0) w vv ys) (hxo : ∀ d ∈ xs, DatOk d) (hyo : ∀ d ∈ ys, DatOk d) (hxl : xs.length ≤ 1000000000) (hyl : ys.length ≤ 1000000000) :
  Fn Tryz.prog 79 #[uv, vv, .func (.func 80) #[] #[]] w (fun v w' => v = .bool (eqAll sameD xs ys) ∧ Ext w w') :=
 P_ed.EqualFunc_ok (dat_shape w0) (dat_shape w0) hx hy rfl (fun A cs ds x y hE hxm hym hc hd => DSame_ok A cs ds x y (hc.ext (hE0.trans hE)) (hd.ext (hE0.trans hE)) (hxo x hxm) (hyo y hym)) hxl hyl

theorem SameG_ok {w0 A0 : World} (hE0 : Ext w0 A0) (A : World) (hEA : Ext A0 A) {cs ds : List Value} {x y : Nm × List DatL} (hc : GlC w0 A0 cs x) (hd : GlC w0 A0 ds y) (hx : NmS x.1 ∧ (∀ d ∈ x.2, DatOk d) ∧ x.2.length ≤ 1000000000) (hy : NmS y.1 ∧ (∀ d ∈ y.2, DatOk d) ∧ y.2.length ≤ 1000000000) :
  Fn Tryz.prog 82 #[.agg cs.toArray, .agg ds.toArray] A (fun v A' => v = .bool (sameG x y) ∧ Ext A A') := by
 obtain ⟨hv, dv, rfl, h1, h2⟩ := hc
 obtain ⟨hv2, dv2, rfl, g1, g2⟩ := hd
 refine enter Tryz.func82 Tryz.ntmps82 rfl rfl ?_
 repeat refine c_r ?_
 refine rg0 ?_
 repeat refine c_r ?_
 rw [new_size]
 refine W_alloc2 ?_
 intro w1 hE1 hs1 hA hB
 have p0 : cellO w1 (some ⟨A.heap.size, 0, Option.none⟩) = some hv := cellO_at hA rfl
 have p1 : cellO w1 (some ⟨A.heap.size, 1, Option.none⟩) = some dv := cellO_at hA rfl
 have q0 : cellO w1 (some ⟨A.heap.size + 1, 0, Option.none⟩) = some hv2 := cellO_at hB rfl
 have q1 : cellO w1 (some ⟨A.heap.size + 1, 1, Option.none⟩) = some dv2 := cellO_at hB rfl
 have hEw := (hE0.trans hEA).trans hE1
 have lx := hx.1.len
 have ly := hy.1.len
 refine rq ?_; intro gd K hgd hK
 have hg5 : ∀ n σ b, wantV gd n σ (some (5, b)) = boolIs (ev n σ (.tmp 10)) b := (fun n σ b => by rw [wantV_some, show gd 5 = some 10 from (by rw [hgd]; rfl)]; rfl)
 try simp (disch := first | omega | assumption | rfl) only [↓reduceIte, go_sem, Nat.reduceLT, Nat.reduceEqDiff, Nat.reduceSub, p0, q0, Nat.add_zero]
 refine Fn.mono (Same_ok _ _ _ _ _ (h1.ext hEw) (g1.ext hEw) hx.1.lb hy.1.lb (by omega) (by omega)) ?_
 rintro _ w2 ⟨rfl, hE2⟩
 have p1' := cellO_ext hE2 p1
 have q1' := cellO_ext hE2 q1
 by_cases hs : foldN x.1 = foldN y.1
 ·rw [decide_eq_true hs]
  try simp (disch := first | omega | assumption | rfl) only [↓reduceIte, go_sem, Nat.reduceLT, Nat.reduceEqDiff, Nat.reduceSub, p1', q1', Nat.zero_add, ↓hg5]
  refine Fn.mono (SameDs_ok (hEw.trans hE2) (h2.ext ((hEA.trans hE1).trans hE2)) (g2.ext ((hEA.trans hE1).trans hE2)) hx.2.1 hy.2.1 hx.2.2 hy.2.2) ?_
  rintro _ w3 ⟨rfl, hE3⟩
  try simp (disch := first | omega | assumption | rfl) only [↓reduceIte, go_sem, Nat.reduceLT, Nat.reduceEqDiff, Nat.reduceSub]
  refine hK _ _ ?_; clear hK hgd; clear K; try clear gd
  repeat refine c_r ?_
  refine rt0 Tryz.ntmps82 ?_
  exact ⟨by unfold sameG; rw [decide_eq_true hs, Bool.true_and], (hE1.trans hE2).trans hE3⟩
 ·rw [decide_eq_false hs]
  try simp (disch := first | omega | assumption | rfl) only [↓reduceIte, go_sem, Nat.reduceLT, Nat.reduceEqDiff, Nat.reduceSub, ↓hg5]
  refine hK _ _ ?_; clear hK hgd; clear K; try clear gd
  repeat refine c_r ?_
  refine rt0 Tryz.ntmps82 ?_
  exact ⟨by unfold sameG; rw [decide_eq_false hs, Bool.false_and], hE1.trans hE2⟩

theorem SameGs_ok {w0 w : World} (hE0 : Ext w0 w) {uv vv : Value} {xs ys : List (Nm × List DatL)} (hx : Rows 2 (GlC w0 w) w uv xs) (hy : Rows 2 (GlC w0 w) w vv ys) (hxo : ∀ x ∈ xs, NmS x.1 ∧ (∀ d ∈ x.2, DatOk d) ∧ x.2.length ≤ 1000000000) (hyo : ∀ x ∈ ys, NmS x.1 ∧ (∀ d ∈ x.2, DatOk d) ∧ x.2.length ≤ 1000000000) (hxl : xs.length ≤ 1000000000) (hyl : ys.length ≤ 1000000000) :
  Fn Tryz.prog 81 #[uv, vv, .func (.func 82) #[] #[]] w (fun v w' => v = .bool (eqAll sameG xs ys) ∧ Ext w w') :=
 P_eg.EqualFunc_ok (glc_shape w0 w) (glc_shape w0 w) hx hy rfl (fun A cs ds x y hE hxm hym hc hd => SameG_ok hE0 A hE hc hd (hxo x hxm) (hyo y hym)) hxl hyl

theorem LkSame_ok {w0 w : World} (hE0 : Ext w0 w) {ca cb : List Value} {a b : ResL} (ha : ResAt w0 w ca a) (hb : ResAt w0 w cb b) (oa : ResOk a) (ob : ResOk b) :
  Fn Tryz.prog 25 #[.agg ca.toArray, .agg cb.toArray] w (fun v w' => v = .bool (sameRes a b) ∧ Ext w w') := by
 obtain ⟨dv, nv, gv, rfl, a1, a2, a3⟩ := ha.ex
 obtain ⟨dv2, nv2, gv2, rfl, b1, b2, b3⟩ := hb.ex
 refine enter Tryz.func25 Tryz.ntmps25 rfl rfl ?_
 repeat refine c_r ?_
 refine rg0 ?_
 repeat refine c_r ?_
 rw [new_size]
 refine W_alloc2 ?_
 intro w1 hE1 hs1 hA hB
 have p0 : cellO w1 (some ⟨w.heap.size, 0, Option.none⟩) = some (vi a.kind) := cellO_at hA rfl
 have p3 : cellO w1 (some ⟨w.heap.size, 3, Option.none⟩) = some (.bool a.wild) := cellO_at hA rfl
 have p2 : cellO w1 (some ⟨w.heap.size, 2, Option.none⟩) = some nv := cellO_at hA rfl
 have q0 : cellO w1 (some ⟨w.heap.size + 1, 0, Option.none⟩) = some (vi b.kind) := cellO_at hB rfl
 have q3 : cellO w1 (some ⟨w.heap.size + 1, 3, Option.none⟩) = some (.bool b.wild) := cellO_at hB rfl
 have q2 : cellO w1 (some ⟨w.heap.size + 1, 2, Option.none⟩) = some nv2 := cellO_at hB rfl
 have lx := oa.nm.len
 have ly := ob.nm.len
 by_cases hk : a.kind = b.kind
 ·by_cases hw : (a.wild == b.wild) = true
  ·refine rq ?_; intro gd K hgd hK
   have hg5 : ∀ n σ b, wantV gd n σ (some (5, b)) = boolIs (ev n σ (.tmp 10)) b := (fun n σ b => by rw [wantV_some, show gd 5 = some 10 from (by rw [hgd]; rfl)]; rfl); have hg12 : ∀ n σ b, wantV gd n σ (some (12, b)) = boolIs (ev n σ (.tmp 17)) b := (fun n σ b => by rw [wantV_some, show gd 12 = some 17 from (by rw [hgd]; rfl)]; rfl); have hg19 : ∀ n σ b, wantV gd n σ (some (19, b)) = boolIs (ev n σ (.tmp 24)) b := (fun n σ b => by rw [wantV_some, show gd 19 = some 24 from (by rw [hgd]; rfl)]; rfl); have hg26 : ∀ n σ b, wantV gd n σ (some (26, b)) = boolIs (ev n σ (.tmp 31)) b := (fun n σ b => by rw [wantV_some, show gd 26 = some 31 from (by rw [hgd]; rfl)]; rfl)
   try simp (disch := first | omega | assumption | rfl) only [↓reduceIte, go_sem, Nat.reduceLT, Nat.reduceEqDiff, Nat.reduceSub, p0, q0, p3, q3, p2, q2, Nat.add_zero, Nat.zero_add, decide_eq_true hk, hw, ↓hg5, ↓hg12, ↓hg19, ↓hg26]
   refine Fn.mono (Same_ok _ _ _ _ _ (a2.ext hE1) (b2.ext hE1) oa.nm.lb ob.nm.lb (by omega) (by omega)) ?_
   rintro _ w2 ⟨rfl, hE2⟩
   have hE12 := hE1.trans hE2
   have p1 : cellO w2 (some ⟨w.heap.size, 1, Option.none⟩) = some dv := cellO_at (hE2.at hA) rfl
   have q1 : cellO w2 (some ⟨w.heap.size + 1, 1, Option.none⟩) = some dv2 := cellO_at (hE2.at hB) rfl
   by_cases hn : foldN a.name = foldN b.name
   ·rw [decide_eq_true hn]
    try simp (disch := first | omega | assumption | rfl) only [↓reduceIte, go_sem, Nat.reduceLT, Nat.reduceEqDiff, Nat.reduceSub, p1, q1, Nat.zero_add, ↓hg5, ↓hg12, ↓hg19, ↓hg26]
    refine Fn.mono (SameDs_ok (hE0.trans hE12) (a1.ext hE12) (b1.ext hE12) oa.dat ob.dat oa.dl ob.dl) ?_
    rintro _ w3 ⟨rfl, hE3⟩
    have hE13 := hE12.trans hE3
    have p4 : cellO w3 (some ⟨w.heap.size, 4, Option.none⟩) = some gv := cellO_at (Ext.at (hE2.trans hE3) hA) rfl
    have q4 : cellO w3 (some ⟨w.heap.size + 1, 4, Option.none⟩) = some gv2 := cellO_at (Ext.at (hE2.trans hE3) hB) rfl
    by_cases hd : eqAll sameD a.data b.data = true
    ·rw [hd]
     try simp (disch := first | omega | assumption | rfl) only [↓reduceIte, go_sem, Nat.reduceLT, Nat.reduceEqDiff, Nat.reduceSub, p4, q4, Nat.zero_add, ↓hg5, ↓hg12, ↓hg19, ↓hg26]
     refine Fn.mono (SameGs_ok (w0 := w0) (hE0.trans hE13) ((a3.ext hE13).to fun cs x hx => ?_) ((b3.ext hE13).to fun cs x hx => ?_) oa.g ob.g oa.gl ob.gl) ?_
     ·obtain ⟨hv, dv, e, g1, g2⟩ := hx
      exact ⟨hv, dv, e, g1, g2.ext hE13⟩
     ·obtain ⟨hv, dv, e, g1, g2⟩ := hx
      exact ⟨hv, dv, e, g1, g2.ext hE13⟩
     rintro _ w4 ⟨rfl, hE4⟩
     try simp (disch := first | omega | assumption | rfl) only [↓reduceIte, go_sem, Nat.reduceLT, Nat.reduceEqDiff, Nat.reduceSub]
     refine hK _ _ ?_; clear hK hgd; clear K; try clear gd
     repeat refine c_r ?_
     refine rt0 Tryz.ntmps25 ?_
     exact ⟨by unfold sameRes; rw [decide_eq_true hk, hw, decide_eq_true hn, hd, Bool.true_and, Bool.true_and, Bool.true_and, Bool.true_and], hE13.trans hE4⟩
    ·have hd' : eqAll sameD a.data b.data = false := by simpa using hd
     rw [hd']
     try simp (disch := first | omega | assumption | rfl) only [↓reduceIte, go_sem, Nat.reduceLT, Nat.reduceEqDiff, Nat.reduceSub, ↓hg5, ↓hg12, ↓hg19, ↓hg26]
     refine hK _ _ ?_; clear hK hgd; clear K; try clear gd
     repeat refine c_r ?_
     refine rt0 Tryz.ntmps25 ?_
     exact ⟨by unfold sameRes; rw [decide_eq_true hk, hw, decide_eq_true hn, hd', Bool.true_and, Bool.true_and, Bool.true_and, Bool.false_and], hE13⟩
   ·rw [decide_eq_false hn]
    try simp (disch := first | omega | assumption | rfl) only [↓reduceIte, go_sem, Nat.reduceLT, Nat.reduceEqDiff, Nat.reduceSub, ↓hg5, ↓hg12, ↓hg19, ↓hg26]
    refine hK _ _ ?_; clear hK hgd; clear K; try clear gd
    repeat refine c_r ?_
    refine rt0 Tryz.ntmps25 ?_
    exact ⟨by unfold sameRes; rw [decide_eq_true hk, hw, decide_eq_false hn, Bool.true_and, Bool.true_and, Bool.false_and], hE12⟩
  ·have hw' : (a.wild == b.wild) = false := by simpa using hw
   refine rq ?_; intro gd K hgd hK
   have hg5 : ∀ n σ b, wantV gd n σ (some (5, b)) = boolIs (ev n σ (.tmp 10)) b := (fun n σ b => by rw [wantV_some, show gd 5 = some 10 from (by rw [hgd]; rfl)]; rfl); have hg12 : ∀ n σ b, wantV gd n σ (some (12, b)) = boolIs (ev n σ (.tmp 17)) b := (fun n σ b => by rw [wantV_some, show gd 12 = some 17 from (by rw [hgd]; rfl)]; rfl); have hg19 : ∀ n σ b, wantV gd n σ (some (19, b)) = boolIs (ev n σ (.tmp 24)) b := (fun n σ b => by rw [wantV_some, show gd 19 = some 24 from (by rw [hgd]; rfl)]; rfl); have hg26 : ∀ n σ b, wantV gd n σ (some (26, b)) = boolIs (ev n σ (.tmp 31)) b := (fun n σ b => by rw [wantV_some, show gd 26 = some 31 from (by rw [hgd]; rfl)]; rfl)
   try simp (disch := first | omega | assumption | rfl) only [↓reduceIte, go_sem, Nat.reduceLT, Nat.reduceEqDiff, Nat.reduceSub, p0, q0, p3, q3, Nat.add_zero, Nat.zero_add, decide_eq_true hk, hw', ↓hg5, ↓hg12, ↓hg19, ↓hg26]
   refine hK _ _ ?_; clear hK hgd; clear K; try clear gd
   repeat refine c_r ?_
   refine rt0 Tryz.ntmps25 ?_
   exact ⟨by unfold sameRes; rw [decide_eq_true hk, hw', Bool.true_and, Bool.false_and], hE1⟩
 ·refine rq ?_; intro gd K hgd hK
  have hg5 : ∀ n σ b, wantV gd n σ (some (5, b)) = boolIs (ev n σ (.tmp 10)) b := (fun n σ b => by rw [wantV_some, show gd 5 = some 10 from (by rw [hgd]; rfl)]; rfl); have hg12 : ∀ n σ b, wantV gd n σ (some (12, b)) = boolIs (ev n σ (.tmp 17)) b := (fun n σ b => by rw [wantV_some, show gd 12 = some 17 from (by rw [hgd]; rfl)]; rfl); have hg19 : ∀ n σ b, wantV gd n σ (some (19, b)) = boolIs (ev n σ (.tmp 24)) b := (fun n σ b => by rw [wantV_some, show gd 19 = some 24 from (by rw [hgd]; rfl)]; rfl); have hg26 : ∀ n σ b, wantV gd n σ (some (26, b)) = boolIs (ev n σ (.tmp 31)) b := (fun n σ b => by rw [wantV_some, show gd 26 = some 31 from (by rw [hgd]; rfl)]; rfl)
  try simp (disch := first | omega | assumption | rfl) only [↓reduceIte, go_sem, Nat.reduceLT, Nat.reduceEqDiff, Nat.reduceSub, p0, q0, Nat.add_zero, Nat.zero_add, decide_eq_false hk, ↓hg5, ↓hg12, ↓hg19, ↓hg26]
  refine hK _ _ ?_; clear hK hgd; clear K; try clear gd
  repeat refine c_r ?_
  refine rt0 Tryz.ntmps25 ?_
  exact ⟨by unfold sameRes; rw [decide_eq_false hk, Bool.false_and], hE1⟩
end Go.Proofs.YtopbbjdembnfdaaGreat

namespace Go.Proofs.YtopbbjdembnfdaaGreat
open Go
set_option maxRecDepth 10000

end Go.Proofs.YtopbbjdembnfdaaGreat

namespace Go.Proofs.YtopbbjdembnfdaaGreat
open Go
set_option maxRecDepth 10000

def Fr (A : World) (bad : Nat → Prop) (F : World → Prop) : Prop := ∀ x, Keep bad A x → F x
theorem Fr.step {A A' : World} {bad bad' : Nat → Prop} {F : World → Prop} (h : Fr A bad F) (hk : Keep bad A A') (hb : ∀ b, bad' b → b < A.heap.size → bad b) : Fr A' bad' F := fun x hx =>
 h x ⟨hx.os.trans hk.os, hx.tape.trans hk.tape, hx.output.trans hk.output, Nat.le_trans hk.size hx.size, fun b hbl hn => (hx.block b (Nat.lt_of_lt_of_le hbl hk.size) (fun h => hn (hb b h hbl))).trans (hk.block b hbl hn), Nat.le_trans hk.drawn hx.drawn⟩
theorem Fr.ext {A A' : World} {bad bad' : Nat → Prop} {F : World → Prop} (h : Fr A bad F) (hk : Ext A A') (hb : ∀ b, bad' b → b < A.heap.size → bad b) : Fr A' bad' F :=
 h.step (hk.mono fun _ _ h => h.elim) hb

theorem DatX.fr {w0 A : World} {B : Nat} {nm : Value} {cs : List Value} {d : DatL} (h : DatX w0 B A nm cs d) (hE : Ext w0 A) {bad : Nat → Prop} (h1 : ∀ b, bad b → b < B) (h2 : ∀ b, bad b → w0.heap.size ≤ b) : Fr A bad (fun x => DatAt x cs d) := fun x hx =>
 (h.keep hx (fun a n c hv hb => by have := (h.blk a n c hv).1; have := h1 _ hb; omega)).at (Keep.to_ext hE rfl h2 hx)

abbrev DX := DatL × List Value
def dxC (cs : List Value) (x : DX) : Prop := cs = x.2 ∧ cs.length = 5 ∧ ∀ q ∈ cs, one q = true
theorem DatX.cells {w0 A : World} {B : Nat} {nm : Value} {cs : List Value} {d : DatL} (h : DatX w0 B A nm cs d) : cs.length = 5 ∧ ∀ q ∈ cs, one q = true := by
 obtain ⟨b1, m1, e1, b2, m2, e2, b3, m3, e3, b4, m4, e4, hds⟩ := h.open
 rw [hds]
 refine ⟨rfl, fun q hq => ?_⟩
 simp at hq
 rcases hq with rfl | rfl | rfl | rfl | rfl <;> rfl
structure DI (B : Nat) (bad : Nat → Prop) (A : World) (dv : Value) (G : List DX) : Prop where
 own : Owns 5 dxC B A 132 dv G
 fr : ∀ y ∈ G, Fr A (fun b => some b = dv.ownBlock ∨ bad b) (fun x => DatAt x y.2 y.1)
theorem DI.nil {B : Nat} {bad : Nat → Prop} {A : World} : DI B bad A (.slice Option.none 0 0) [] := ⟨Owns.nil _ _ _ _ _, fun y h => absurd h (by simp)⟩
theorem DI.rows {B : Nat} {bad : Nat → Prop} {A : World} {dv : Value} {G : List DX} (h : DI B bad A dv G) (hB : ∀ b, bad b → b < B) : Fr A bad (fun x => Rows 5 (DatAt x) x dv (G.map Prod.fst)) := fun x hx =>
 (h.own.keep hx (fun b hb h2 => by have := (h.own.ge hb).1; have := hB b h2; omega)).rows.mapM Prod.fst (fun cs y hy hc => by
  rw [hc.1]
  exact h.fr y hy x (hx.mono fun _ _ h => .inr h))

def GF (y : GlX) (x : World) : Prop := Row x y.2.1 (y.1.1.map vs) ∧ Rows 5 (DatAt x) x y.2.2 y.1.2
structure GI (B : Nat) (bad : Nat → Prop) (A : World) (gv : Value) (G : List GlX) (F : World → Prop) : Prop where
 own : Owns 2 glC B A 143 gv G
 fr : ∀ y ∈ G, Fr A (fun b => some b = gv.ownBlock ∨ bad b) (GF y)
 dat : Fr A (fun b => some b = gv.ownBlock ∨ bad b) F
theorem GI.ext {B : Nat} {bad : Nat → Prop} {A A' : World} {gv : Value} {G : List GlX} {F : World → Prop} (h : GI B bad A gv G F) (hE : Ext A A') : GI B bad A' gv G F :=
 ⟨h.own.ext hE, fun y hy => (h.fr y hy).ext hE (fun b h _ => h), h.dat.ext hE (fun b h _ => h)⟩
end Go.Proofs.YtopbbjdembnfdaaGreat

namespace Go.Proofs.YtopbbjdembnfdaaGreat
open Go

def NumR (R : List RecL) : Prop := ∀ r ∈ R, ∀ n ∈ r.dat.nums, 0 ≤ n ∧ n ≤ 4294967295
theorem checkN_lb {n : Nm} (h : checkN n = 0) : LB n := fun l hl => by have := (checkN_labels h l hl).2; omega
theorem good_dat {R : List RecL} (h : GoodRs R) (hv : NumR R) : ∀ r ∈ R, DatOk r.dat := fun r hr => by
 have hf := (h.few r hr).2
 exact ⟨fun n hn => ⟨checkN_lb (h.names r hr n hn), by have := (hf.names n hn).2; omega⟩, by have := hf.nn; omega, by have := hf.nu; omega, by have := hf.nt; omega, hv r hr, by have := hf.nr; omega⟩
theorem good_ok {R : List RecL} (h : GoodRs R) (hv : NumR R) : ∀ r ∈ R, RecOk r := fun r hr =>
 ⟨checkN_lb (h.own r hr), by have := checkN_len (h.own r hr); omega, good_dat h hv r hr⟩
structure GoodC (R : List RecL) : Prop where
 ok : ∀ r ∈ R, RecOk r
 srt : SortR R
 gd : GoodR R
 ld : LeadR R
 len : R.length ≤ 60
 nn : ∀ r ∈ R, r.dat.names.length ≤ 1000000000
theorem good_canon {R : List RecL} (h : GoodRs R) (hv : NumR R) : GoodC (canonL R) := by
 refine ⟨canonL_all (fun a b h => ⟨h.lb, h.len, h.dat⟩) (good_ok h hv), canonL_sorted R, ?_, ?_, Nat.le_trans (canonL_len R) h.len, ?_⟩
 ·exact canonL_all (Q := fun r => ∀ n ∈ r.dat.names, NmG n) (fun a b h => h) (fun r hr n hn => checkN_g (h.names r hr n hn))
 ·refine canonL_all (Q := fun r => (r.dat.ty = 2 ∨ r.dat.ty = 5 ∨ r.dat.ty = 39) → r.dat.names ≠ []) (fun a b h => h) (fun r hr ht hn => ?_)
  have := h.lead r hr ht
  rw [hn] at this
  cases this
 ·exact canonL_all (Q := fun r => r.dat.names.length ≤ 1000000000) (fun a b h => h) (fun r hr => (h.few r hr).2.nn)
theorem good_zone {w0 w : World} {ov lv : Value} {o : Nm} {R : List RecL} (h : GoodC R) (hE : Ext w0 w) (ho : Row w ov (o.map vs)) (hl : Rows 7 (RecAt w0) w lv R) (hg : goodN o = true) : ZnAt w0 w ov lv o R :=
 ⟨hE, ho, hl, (goodN_g hg).m.s.lb, (goodN_g hg).m.s.len, h.ok, by have := h.len; omega⟩

structure ResF (P : DatL → Prop) (m : Nat) (r : ResL) : Prop where
 nm : NmS r.name
 dat : ∀ d ∈ r.data, P d
 dl : r.data.length ≤ m
 gl : r.glue.length ≤ m
 g : ∀ x ∈ r.glue, NmS x.1 ∧ (∀ d ∈ x.2, P d) ∧ x.2.length ≤ m + m
theorem resF_plain {P : DatL → Prop} {m : Nat} {k : Int} {ds : List DatL} {n : Nm} {b : Bool} (hn : NmS n) (hd : ∀ d ∈ ds, P d) (hl : ds.length ≤ m) : ResF P m ⟨k, ds, n, b, []⟩ :=
 ⟨hn, hd, hl, Nat.zero_le _, fun x h => by cases h⟩
theorem nil_s : NmS [] := ⟨fun l h => (by cases h), Nat.zero_le _⟩
section
variable {P : DatL → Prop} {R : List RecL} {o : Nm}
theorem datC_P (hP : ∀ r ∈ R, P r.dat) {n : Nm} {t : Int} : ∀ d ∈ datC R n t, P d := fun d hd => by
 obtain ⟨r, hr, rfl⟩ := datC_mem hd
 exact hP r hr
theorem refer_F (hP : ∀ r ∈ R, P r.dat) (hG : GoodR R) {n : Nm} (hn : NmS n) : ResF P R.length (referL R n) := by
 refine ⟨hn, datC_P hP, datC_len, ?_, fun x hx => ?_⟩
 ·exact Nat.le_trans (glueOf_len _ _) (Nat.le_trans (hostsG_len _ _) (Nat.le_trans (targets_len _ _) datC_len))
 ·obtain ⟨h, hh, he⟩ := List.mem_filterMap.1 hx
  split at he
  ·cases he
  ·cases he
   refine ⟨(targets_good hG (n := n) (t := 2) (fun d hd => hd) h (hostsG_mem _ _ h hh)).m.s, fun d hd => ?_, ?_⟩
   ·unfold glueL at hd
    rcases List.mem_append.1 hd with hd | hd
    ·exact datC_P hP d hd
    ·exact datC_P hP d hd
   ·have h1 := datC_len (R := R) (n := h) (t := 1)
    have h2 := datC_len (R := R) (n := h) (t := 28)
    show (glueL R h).length ≤ _
    unfold glueL
    rw [List.length_append]; omega
theorem take_P (hP : ∀ r ∈ R, P r.dat) {n : Nm} {t : Int} : (∀ d ∈ (datC R n t).take 1, P d) ∧ ((datC R n t).take 1).length ≤ R.length :=
 ⟨fun d hd => datC_P hP d (List.mem_of_mem_take hd), by have := datC_len (R := R) (n := n) (t := t); rw [List.length_take]; omega⟩
theorem renamed_F (hP : ∀ r ∈ R, P r.dat) (hG : GoodR R) {q n : Nm} (hq : NmM q) {r : ResL} (h : renamedL R q n = some r) : ResF P R.length r := by
 unfold renamedL at h
 split at h
 ·cases h
 ·split at h
  ·cases h
   have hm := swap_m hq (toN_m hG (n := n) (t := 39) (u := 39)) (f := n)
   exact resF_plain ⟨fun l hl => by have := hm.1 l hl; omega, by have := hm.2; omega⟩ (take_P hP).1 (take_P hP).2
  ·cases h
   exact resF_plain nil_s (fun d h => by cases h) (Nat.zero_le _)
theorem at_F (hP : ∀ r ∈ R, P r.dat) (hG : GoodR R) {n : Nm} {t : Int} {b : Bool} : ResF P R.length (atL R n t b) := by
 unfold atL
 split
 ·exact resF_plain nil_s (datC_P hP) datC_len
 ·split
  ·exact resF_plain (toN_m hG).s (take_P hP).1 (take_P hP).2
  ·exact resF_plain nil_s (fun d h => by cases h) (Nat.zero_le _)
theorem go_F (hP : ∀ r ∈ R, P r.dat) (hG : GoodR R) {q : Nm} (hq : NmM q) : ∀ {l : List Nm} {r : ResL}, (∀ n ∈ l, NmS n) → goL o R q l = some r → ResF P R.length r
 | [], r, _, h => by cases h
 | n :: l, r, hl, h => by
  simp only [goL] at h
  split at h
  ·cases h
   exact refer_F hP hG (hl n (List.mem_cons_self ..))
  ·split at h
   ·cases h
   ·split at h
    ·rename_i r' hr
     cases h
     exact renamed_F hP hG hq hr
    ·exact go_F hP hG hq (fun x hx => hl x (List.mem_cons_of_mem _ hx)) h
theorem look_F (hP : ∀ r ∈ R, P r.dat) (hG : GoodR R) {q : Nm} {t : Int} (hq : NmM q) : ResF P R.length (lookL o R q t) := by
 unfold lookL
 split
 ·exact resF_plain nil_s (fun d h => by cases h) (Nat.zero_le _)
 ·split
  ·rename_i r hr
   refine go_F hP hG hq (fun n hn => ?_) hr
   unfold downs at hn
   split at hn
   ·obtain ⟨i, _, rfl⟩ := downF_mem.1 hn
    exact (hq.drop i).s
   ·cases hn
  ·split
   ·exact at_F hP hG
   ·split
    ·exact at_F hP hG
    ·exact resF_plain nil_s (fun d h => by cases h) (Nat.zero_le _)
end
theorem look_ok {R : List RecL} (h : GoodC R) {o q : Nm} {t : Int} (hq : NmM q) : ResOk (lookL o R q t) := by
 have h1 := look_F (o := o) (P := DatOk) (fun r hr => (h.ok r hr).dat) h.gd (t := t) hq
 have hl := h.len
 exact ⟨h1.nm, h1.dat, by have := h1.dl; omega, by have := h1.gl; omega, fun x hx => by
  obtain ⟨a, b, c⟩ := h1.g x hx
  exact ⟨a, b, by omega⟩⟩
theorem cmpD_self (d : DatL) : cmpD d d = 0 := by
 have := cpr_D.neg d d
 omega
theorem sameRes_self (r : ResL) : sameRes r r = true := by
 have hD : ∀ d, sameD d d = true := fun d => by unfold sameD; rw [cmpD_self]; rfl
 have hGs : ∀ g, sameG g g = true := fun g => by unfold sameG; rw [eqAll_self hD]; simp
 unfold sameRes
 rw [eqAll_self hD, eqAll_self hGs]
 simp
theorem ResAt.base {w0 w : World} {cs : List Value} {r : ResL} (h : ResAt w0 w cs r) (hE : Ext w0 w) : ResAt w w cs r := by
 obtain ⟨dv, nv, gv, e, h1, h2, h3⟩ := h.ex
 refine ⟨dv, nv, gv, e, h1.to fun cs d hd => hd.ext hE, h2, h3.to fun cs x hx => ?_⟩
 obtain ⟨hv, dv, e, g1, g2⟩ := hx
 exact ⟨hv, dv, e, g1.ext hE, g2.to fun cs d hd => hd.ext hE⟩
end Go.Proofs.YtopbbjdembnfdaaGreat

namespace Go.Proofs.YtopbbjdembnfdaaGreat
open Go
set_option maxRecDepth 100000
section
variable {H : Type} {enc : TypeId × Value → H} {P : Program} {w : World} {base : Nat} {sp : Nat → Bool} {held : Bool}

theorem rd_ints {t e : TypeId} {k : IntKind} {v : Value} (h : Rd enc P w base sp held t v) (ht : P.underlying t = some (.slice e)) (hc : P.cellsOf e = 1) (he : P.underlying e = some (.int k)) : ∃ l : List Int, Row w v (l.map (.int k)) ∧ ∀ n ∈ l, (Lit.int k n).wf = true := by
 obtain ⟨vals, hr, hall, _⟩ := rd_slice h ht hc
 obtain ⟨m, rfl, hm⟩ := list_of (f := fun n => Value.int k n) (Q := fun n => (Lit.int k n).wf = true) (fun u hu => by
  obtain ⟨n, h1, h2⟩ := rd_int (hall u hu).c he
  exact ⟨n, by simpa using h1, h2⟩)
 exact ⟨m, hr, hm⟩

theorem wf_u32 {n : Int} (h : (Lit.int .u32 n).wf = true) : 0 ≤ n ∧ n ≤ 4294967295 := by
 simp [Lit.wf, IntKind.min, IntKind.max, IntKind.signed, IntKind.bits] at h
 omega
theorem wf_u8 {n : Int} (h : (Lit.int .u8 n).wf = true) : 0 ≤ n ∧ n ≤ 255 := by
 simp [Lit.wf, IntKind.min, IntKind.max, IntKind.signed, IntKind.bits] at h
 omega
theorem bytes_of {l : List Int} (h : ∀ n ∈ l, (Lit.int .u8 n).wf = true) : ∃ m : List UInt8, l.map (Value.int .u8) = m.map byteV := by
 induction l with
 | nil => exact ⟨[], rfl⟩
 | cons n l ih =>
  obtain ⟨m, hm⟩ := ih (fun x hx => h x (List.mem_cons_of_mem _ hx))
  have hb := wf_u8 (h n (List.mem_cons_self ..))
  obtain ⟨k, rfl⟩ : ∃ k : Nat, n = (k : Int) := ⟨n.toNat, by omega⟩
  exact ⟨UInt8.ofNat k :: m, by rw [List.map_cons, List.map_cons, hm, byteV_of (by omega)]⟩

theorem rd_data {cs : List Value} (h : RdC enc Tryz.prog w base sp held 59 cs) : ∃ d : DatL, DatAt w cs d ∧ ∀ n ∈ d.nums, 0 ≤ n ∧ n ≤ 4294967295 := by
 obtain ⟨hl, hf⟩ := rd_field h rfl
 have hl5 : cs.length = 5 := hl
 match cs, hl5 with
 | [c0, c1, c2, c3, c4], _ =>
  obtain ⟨ty, e0, _⟩ := rd_int (hf 0 _ rfl) rfl
  obtain ⟨names, n1, _⟩ := rd_names (P := Tryz.prog) (ts := 23) (tb := 9) (RdC.one (hf 1 _ rfl)) rfl rfl rfl rfl rfl rfl
  obtain ⟨nums, n2, n3⟩ := rd_ints (RdC.one (hf 2 _ rfl)) rfl rfl rfl
  obtain ⟨texts, n4, _⟩ := rd_name (P := Tryz.prog) (RdC.one (hf 3 _ rfl)) (e := 9) rfl rfl rfl rfl
  obtain ⟨raw, n5, n6⟩ := rd_ints (RdC.one (hf 4 _ rfl)) rfl rfl rfl
  obtain ⟨rb, hrb⟩ := bytes_of n6
  rw [hrb] at n5
  have e0' : c0 = vi ty := List.head_eq_of_cons_eq (show [c0] = [vi ty] from e0)
  exact ⟨⟨ty, names, nums, texts, rb⟩, ⟨c1, c2, c3, c4, by rw [e0'], n1, n2, n4, n5⟩, fun n hn => wf_u32 (n3 n hn)⟩
theorem rd_rec {cs : List Value} (h : RdC enc Tryz.prog w base sp held 110 cs) : ∃ r : RecL, RecAt w cs r ∧ ∀ n ∈ r.dat.nums, 0 ≤ n ∧ n ≤ 4294967295 := by
 obtain ⟨hl, hf⟩ := rd_field h rfl
 have hl7 : cs.length = 7 := hl
 match cs, hl7 with
 | [c0, c1, c2, c3, c4, c5, c6], _ =>
  obtain ⟨owner, n0, _⟩ := rd_name (P := Tryz.prog) (RdC.one (hf 0 _ rfl)) (e := 9) rfl rfl rfl rfl
  obtain ⟨ttl, e1, _⟩ := rd_int (hf 1 _ rfl) rfl
  obtain ⟨d, hd, hn⟩ := rd_data (hf 2 _ rfl)
  have e1' : c1 = v32 ttl := List.head_eq_of_cons_eq (show [c1] = [v32 ttl] from e1)
  have hd' : DatAt w [c2, c3, c4, c5, c6] d := hd
  exact ⟨⟨owner, ttl, d⟩, ⟨c0, [c2, c3, c4, c5, c6], by rw [e1'], n0, hd'⟩, hn⟩
theorem rd_recs {v : Value} (h : Rd enc Tryz.prog w base sp held 24 v) : ∃ R : List RecL, Rows 7 (RecAt w) w v R ∧ NumR R := by
 obtain ⟨L, hL, hall, _⟩ := rd_sliceC h (e := 110) (k := 7) rfl rfl
 have : ∀ L : List (List Value), (∀ cs ∈ L, RdC enc Tryz.prog w base sp held 110 cs) → ∃ R : List RecL, L.length = R.length ∧ (∀ i (h : i < L.length) (h' : i < R.length), RecAt w L[i] R[i]) ∧ NumR R := fun L => by
  induction L with
  | nil => intro _; exact ⟨[], rfl, fun i h => by simp at h, fun r h => by cases h⟩
  | cons cs L ih =>
   intro h
   obtain ⟨r, h1, h2⟩ := rd_rec (h cs (List.mem_cons_self ..))
   obtain ⟨R, a1, a2, a3⟩ := ih (fun x hx => h x (List.mem_cons_of_mem _ hx))
   refine ⟨r :: R, by simp [a1], fun i a b => ?_, fun x hx => ?_⟩
   ·cases i with
    | zero => exact h1
    | succ i => exact a2 i (by simpa using a) (by simpa using b)
   ·rcases List.mem_cons.1 hx with rfl | hx
    ·exact h2
    ·exact a3 x hx
 obtain ⟨R, a1, a2, a3⟩ := this L hall
 exact ⟨R, ⟨L, hL, a1, a2⟩, a3⟩
end
end Go.Proofs.YtopbbjdembnfdaaGreat

namespace Go.Proofs.YtopbbjdembnfdaaGreat
open Go
set_option maxRecDepth 100000

def kO : Nm := [[111]]
def kA : DatL := ⟨1, [], [], [], [1, 2, 3, 4]⟩
def kNs : Nm := [[110, 115], [115], [111]]
def kNsD : DatL := ⟨2, [kNs], [], [], []⟩
def kDn : DatL := ⟨39, [[[116]]], [], [], []⟩
def kCn : DatL := ⟨5, [[[99]]], [], [], []⟩
def kRs : List RecL := [⟨[[97], [111]], 0, kA⟩, ⟨[[115], [111]], 0, kNsD⟩, ⟨kNs, 0, kA⟩, ⟨[[100], [111]], 0, kDn⟩, ⟨[[42], [119], [111]], 0, kCn⟩]
def kL (q : Nm) : ResL := lookL kO (canonL kRs) q 1
theorem k_a : kL [[65], [111]] = ⟨1, [kA], [], false, []⟩ := by kernel_rfl
theorem k_s : kL [[113], [115], [111]] = ⟨4, [kNsD], [[115], [111]], false, [(kNs, [kA])]⟩ := by kernel_rfl
theorem k_d : kL [[112], [100], [111]] = ⟨5, [kDn], [[112], [116]], false, []⟩ := by kernel_rfl
theorem k_w : kL [[112], [119], [111]] = ⟨5, [kCn], [[99]], true, []⟩ := by kernel_rfl
theorem k_v : kL [[118], [111]] = ⟨3, [], [], false, []⟩ := by kernel_rfl
theorem k_e : kL [[119], [111]] = ⟨2, [], [], false, []⟩ := by kernel_rfl
theorem k_p : kL [[112]] = ⟨7, [], [], false, []⟩ := by kernel_rfl
theorem k_rs : GoodRs kRs := by
 refine ⟨by decide, ?_, ?_, ?_, ?_⟩
 all_goals
  intro r hr
  simp only [kRs, List.mem_cons, List.not_mem_nil, or_false] at hr
 ·rcases hr with rfl | rfl | rfl | rfl | rfl
  all_goals
   refine ⟨by kernel_rfl, ⟨?_, by decide, by decide, by decide, ?_, by decide⟩⟩
   ·intro n hn
    simp only [kA, kNsD, kDn, kCn, List.mem_cons, List.not_mem_nil, or_false] at hn
    try subst hn
    try decide
   ·intro l hl; cases hl
 ·rcases hr with rfl | rfl | rfl | rfl | rfl <;> kernel_rfl
 ·rcases hr with rfl | rfl | rfl | rfl | rfl
  all_goals
   intro n hn
   simp only [kA, kNsD, kDn, kCn, List.mem_cons, List.not_mem_nil, or_false] at hn
   try subst hn
   try kernel_rfl
 ·rcases hr with rfl | rfl | rfl | rfl | rfl
  all_goals
   intro ht
   first | rfl | (simp [leadT, kA] at ht)
theorem k_num : NumR kRs := by
 intro r hr
 simp only [kRs, List.mem_cons, List.not_mem_nil, or_false] at hr
 rcases hr with rfl | rfl | rfl | rfl | rfl <;> (intro n hn; cases hn)
theorem k_good : GoodC (canonL kRs) := good_canon k_rs k_num
end Go.Proofs.YtopbbjdembnfdaaGreat

namespace Go.Proofs.YtopbbjdembnfdaaGreat
open Go
set_option maxRecDepth 10000

def KnownOk : Prop := ∀ w : World, Fn Tryz.prog 15 #[] w (fun v w' => v = .bool true ∧ Ext w w')

end Go.Proofs.YtopbbjdembnfdaaGreat

namespace Go.Proofs.YtopbbjdembnfdaaGreat
open Go
section
variable {P : Program} {x : World} {e : TypeId} {K : Value → World → Prop}
theorem sv_new {t : TypeId} {cur : Array Value} {l : List Value} (hl : l.length = cur.size) (h1 : ∀ v ∈ l, one v = true) (hs : tyS P t = l.length) (hi : (P.info? t).isSome = true)
  (hK : ∀ w', Ext x w' → w'.heap.size = x.heap.size + 1 → w'.heap[x.heap.size]? = some (.cells l.toArray e (0, 0)) → K undef w') : stK P t (.pointer (some ⟨x.heap.size, 0, Option.none⟩)) (.agg l.toArray) (x.alloc (.cells cur e (0, 0))) K := by
 have hB3 := new_block x (.cells cur e (0, 0))
 have hE4 := Ext.alloc x (.cells cur e (0, 0))
 have hs4 := new_size x (.cells cur e (0, 0))
 refine sv_all (P := P) (t := t) (l := l) hB3 hl h1 hs hi ?_
 intro w5 hs5 hB5 hk5
 exact hK w5 (Keep.to_ext hE4 rfl (fun b hb => by omega) hk5) (by omega) hB5
theorem Row.isOne {w : World} {v : Value} {l : List Value} (h : Row w v l) : one v = true := by
 obtain ⟨a, c, rfl, _⟩ := h; rfl
theorem Rows.isOne {α : Type} {k : Nat} {C : List Value → α → Prop} {w : World} {v : Value} {l : List α} (h : Rows k C w v l) : one v = true := by
 obtain ⟨a, c, rfl, _⟩ := h.open; rfl
theorem two_one {a b : Value} (ha : one a = true) (hb : one b = true) : ∀ v ∈ [a, b], one v = true := fun v h => by
 simp at h
 rcases h with rfl | rfl <;> assumption
end
end Go.Proofs.YtopbbjdembnfdaaGreat

namespace Go.Proofs.YtopbbjdembnfdaaGreat
open Go

def Alk (a b : ResL) : Prop := ∃ n, b = { a with name := n } ∧ foldN n = foldN a.name
theorem sameD_self (d : DatL) : sameD d d = true := by unfold sameD; rw [cmpD_self]; rfl
theorem sameG_self (g : Nm × List DatL) : sameG g g = true := by unfold sameG; rw [eqAll_self sameD_self]; simp
theorem Alk.same {a b : ResL} (h : Alk a b) : sameRes a b = true := by
 obtain ⟨n, rfl, h⟩ := h
 unfold sameRes
 rw [eqAll_self sameD_self, eqAll_self sameG_self, h]
 simp
theorem Alk.kind {a b : ResL} (h : Alk a b) : b.kind = a.kind := by
 obtain ⟨n, rfl, h⟩ := h; rfl
section
variable {R : List RecL} {o q n : Nm} {t : Int}
end

/-! types -/
section
variable {R : List RecL} {o q n : Nm} {t u : Int}
theorem renamed_kind {r : ResL} (h : renamedL R q n = some r) : (r.kind = 5 ∨ r.kind = 6) ∧ (r.kind = 5 → ∀ d ∈ r.data, d.ty = 39) := by
 unfold renamedL at h
 split at h
 ·cases h
 ·split at h
  ·cases h
   exact ⟨.inl rfl, fun _ d hd => datC_ty (List.mem_of_mem_take hd)⟩
  ·cases h
   exact ⟨.inr rfl, fun h => by cases h⟩
theorem go_kind : ∀ {l : List Nm} {r : ResL}, goL o R q l = some r → (r.kind = 4 ∨ r.kind = 5 ∨ r.kind = 6) ∧ (r.kind = 5 → ∀ d ∈ r.data, d.ty = 39) ∧ (r.kind = 4 → ∀ d ∈ r.data, d.ty = 2)
 | [], _, h => by cases h
 | n :: l, r, h => by
  simp only [goL] at h
  split at h
  ·cases h
   exact ⟨.inl rfl, (fun h => by cases h), fun _ d hd => datC_ty hd⟩
  ·split at h
   ·cases h
   ·split at h
    ·rename_i r' hr
     cases h
     obtain ⟨h1, h2⟩ := renamed_kind hr
     exact ⟨.inr h1, h2, fun h => by omega⟩
    ·exact go_kind h
theorem at_kind {b : Bool} : ((atL R n t b).kind = 1 ∨ (atL R n t b).kind = 2 ∨ (atL R n t b).kind = 5) ∧ ((atL R n t b).kind = 1 → ∀ d ∈ (atL R n t b).data, d.ty = t) ∧ ((atL R n t b).kind = 5 → ∀ d ∈ (atL R n t b).data, d.ty = 5) := by
 unfold atL
 split
 ·exact ⟨.inl rfl, (fun _ d hd => datC_ty hd), fun h => by cases h⟩
 ·split
  ·exact ⟨.inr (.inr rfl), (fun h => by cases h), fun _ d hd => datC_ty (List.mem_of_mem_take hd)⟩
  ·exact ⟨.inr (.inl rfl), (fun h => by cases h), fun h => by cases h⟩
def badD (k t ty : Int) : Bool := (decide (k = 1) && !decide (ty = t)) || ((decide (k = 4) && !decide (ty = 2)) || (decide (k = 5) && (!decide (ty = 5) && !decide (ty = 39))))
theorem look_types : (∀ d ∈ (lookL o R q t).data, badD (lookL o R q t).kind t d.ty = false) ∧
  (((lookL o R q t).kind = 1 ∨ (lookL o R q t).kind = 2) → (lookL o R q u).kind = 1 ∨ (lookL o R q u).kind = 2 ∨ (lookL o R q u).kind = 5) ∧
  ((lookL o R q t).kind = 3 ↔ (lookL o R q u).kind = 3) ∧ ((lookL o R q t).kind = 4 ↔ (lookL o R q u).kind = 4) ∧ ((lookL o R q t).kind = 7 ↔ (lookL o R q u).kind = 7) := by
 unfold lookL
 by_cases hu : under q o = false
 ·rw [if_pos hu, if_pos hu]
  exact ⟨(fun d h => by cases h), (fun h => by rcases h with h | h <;> cases h), Iff.rfl, Iff.rfl, Iff.rfl⟩
 rw [if_neg hu, if_neg hu]
 cases hg : goL o R q (downs o q) with
 | some r =>
  obtain ⟨h1, h2, h3⟩ := go_kind hg
  show (∀ d ∈ r.data, badD r.kind t d.ty = false) ∧ ((r.kind = 1 ∨ r.kind = 2) → _) ∧ (r.kind = 3 ↔ r.kind = 3) ∧ (r.kind = 4 ↔ r.kind = 4) ∧ (r.kind = 7 ↔ r.kind = 7)
  refine ⟨fun d hd => ?_, (fun h => by omega), Iff.rfl, Iff.rfl, Iff.rfl⟩
  unfold badD
  rcases h1 with h1 | h1 | h1
  ·rw [h1, h3 h1 d hd]; rfl
  ·rw [h1, h2 h1 d hd]; rfl
  ·rw [h1]; rfl
 | none =>
  have key : ∀ {n : Nm} {b : Bool}, (∀ d ∈ (atL R n t b).data, badD (atL R n t b).kind t d.ty = false) ∧
    (((atL R n t b).kind = 1 ∨ (atL R n t b).kind = 2) → (atL R n u b).kind = 1 ∨ (atL R n u b).kind = 2 ∨ (atL R n u b).kind = 5) ∧
    ((atL R n t b).kind = 3 ↔ (atL R n u b).kind = 3) ∧ ((atL R n t b).kind = 4 ↔ (atL R n u b).kind = 4) ∧ ((atL R n t b).kind = 7 ↔ (atL R n u b).kind = 7) := by
   intro n b
   obtain ⟨h1, h2, h3⟩ := at_kind (R := R) (n := n) (t := t) (b := b)
   obtain ⟨g1, _, _⟩ := at_kind (R := R) (n := n) (t := u) (b := b)
   refine ⟨fun d hd => ?_, fun _ => g1, by omega, by omega, by omega⟩
   unfold badD
   rcases h1 with h | h | h
   ·rw [h, h2 h d hd]; simp
   ·rw [h]; rfl
   ·rw [h, h3 h d hd]; simp
  by_cases he : existsL o R q = true
  ·simp only [if_pos he]
   exact key
  ·simp only [if_neg he]
   cases sourceL o R q with
   | none => exact ⟨(fun d h => by cases h), (fun h => by rcases h with h | h <;> cases h), Iff.rfl, Iff.rfl, Iff.rfl⟩
   | some s => exact key
end

/-! cuts -/
section
variable {R : List RecL} {o q : Nm} {t u : Int}
end
end Go.Proofs.YtopbbjdembnfdaaGreat

namespace Go.Proofs.YtopbbjdembnfdaaGreat
open Go
set_option maxRecDepth 10000

set_option maxHeartbeats 4000000 in
theorem LookTypes_ok (hkn : KnownOk) (W : World) {ov lv qv : Value} {o q : Nm} {R : List RecL} {t u : Int} (ho : Row W ov (o.map vs)) (hl : Rows 7 (RecAt W) W lv R) (hv : NumR R) (hq : Row W qv (q.map vs)) :
  Fn Tryz.prog 6 #[ov, lv, qv, vi t, vi u] W (fun v w' => v = .bool true ∧ Ext W w') := by
 refine enter Tryz.func6 Tryz.ntmps6 rfl rfl ?_
 repeat refine c_r ?_
 refine rg0 ?_
 repeat refine c_r ?_
 refine rq ?_; intro gd K hgd hK
 try simp (disch := first | omega | assumption | rfl) only [↓reduceIte, go_sem, Nat.reduceLT, Nat.reduceEqDiff, Nat.reduceSub]
 refine Fn.mono (hkn W) ?_
 rintro _ w1 ⟨rfl, hE1⟩
 try simp (disch := first | omega | assumption | rfl) only [↓reduceIte, go_sem, Nat.reduceLT, Nat.reduceEqDiff, Nat.reduceSub]
 refine hK _ _ ?_; clear hK hgd; clear K; try clear gd
 repeat refine c_r ?_
 refine W_cond (t := false) (vr0) (fun h => by cases h) ?_
 intro _
 repeat refine c_r ?_
 refine W_mono (Q := fun e σ' ds' v' => e = .normal ∧ ds' = [] ∧ σ' 0 = ov ∧ σ' 1 = lv ∧ σ' 2 = qv ∧ σ' 3 = vi t ∧ σ' 4 = vi u ∧ Ext W v' ∧ ∃ bb, σ' 26 = .bool bb ∧ (bb = false → goodN o = true ∧ GoodRs R ∧ goodN q = true)) ?_ ?_
 ·refine rq ?_; intro gd K hgd hK
  have hg4 : ∀ n σ b, wantV gd n σ (some (4, b)) = boolIs (ev n σ (.tmp 22)) b := (fun n σ b => by rw [wantV_some, show gd 4 = some 22 from (by rw [hgd]; rfl)]; rfl)
  try simp (disch := first | omega | assumption | rfl) only [↓reduceIte, go_sem, Nat.reduceLT, Nat.reduceEqDiff, Nat.reduceSub]
  refine Fn.mono (ZGood_ok hE1 (ho.ext hE1) (hl.ext hE1)) ?_
  rintro _ w2 ⟨hE2, b, rfl, hb⟩
  cases b with
  | false =>
   try simp (disch := first | omega | assumption | rfl) only [↓reduceIte, go_sem, Nat.reduceLT, Nat.reduceEqDiff, Nat.reduceSub, Bool.not_false, ↓hg4]
   refine hK _ _ ?_; clear hK hgd; clear K; try clear gd
   exact ⟨rfl, rfl, vq0, vq0, vq0, vq0, vq0, hE1.trans hE2, _, vr0, fun h => by cases h⟩
  | true =>
   try simp (disch := first | omega | assumption | rfl) only [↓reduceIte, go_sem, Nat.reduceLT, Nat.reduceEqDiff, Nat.reduceSub, Bool.not_true, ↓hg4]
   refine Fn.mono (NGood_ok w2 qv q (hq.ext (hE1.trans hE2))) ?_
   rintro _ w3 ⟨rfl, hE3⟩
   try simp (disch := first | omega | assumption | rfl) only [↓reduceIte, go_sem, Nat.reduceLT, Nat.reduceEqDiff, Nat.reduceSub, ↓hg4]
   refine hK _ _ ?_; clear hK hgd; clear K; try clear gd
   exact ⟨rfl, rfl, vq0, vq0, vq0, vq0, vq0, (hE1.trans hE2).trans hE3, _, vr0, fun h => ⟨(hb rfl).1, (hb rfl).2, by simpa using h⟩⟩
 clear hE1 w1
 rintro _ σ1 _ w1 ⟨rfl, rfl, h0, h1, h2, h3, h4, hE1, bb, h26, hbb⟩
 repeat refine c_r ?_
 refine W_cond (t := bb) ((vq1 h26)) ?_ ?_
 ·intro _
  repeat (first | refine c_r ?_ | refine rg0 ?_)
  refine rt0 Tryz.ntmps6 ?_
  exact ⟨rfl, hE1⟩
 intro hb
 obtain ⟨go, gR, gq⟩ := hbb hb
 have hC := good_canon gR hv
 have hrok := good_ok gR hv
 have hRl := gR.len
 have mq : NmM q := (goodN_g gq).m
 have ka : ResOk (lookL o (canonL R) q t) := look_ok hC mq
 obtain ⟨lt1, lt2, lt3, lt4, lt5⟩ := look_types (R := canonL R) (o := o) (q := q) (t := t) (u := u)
 repeat refine c_r ?_
 refine rq ?_; intro gd K hgd hK
 try simp (disch := first | omega | assumption | rfl) only [↓reduceIte, go_sem, Nat.reduceLT, Nat.reduceEqDiff, Nat.reduceSub, h0, h1]
 refine Fn.mono (ZNew_ok hE1 (ho.ext hE1) (hl.ext hE1) hrok (by omega)) ?_
 rintro _ w2 ⟨hE2, cv, rfl, hcv⟩
 have hE12 := hE1.trans hE2
 try simp (disch := first | omega | assumption | rfl) only [↓reduceIte, go_sem, Nat.reduceLT, Nat.reduceEqDiff, Nat.reduceSub]
 refine sv_new (P := Tryz.prog) (l := [ov, cv]) rfl (two_one ho.isOne hcv.isOne) rfl rfl ?_
 intro w3 hE3 hs3 hB3
 try simp (disch := first | omega | assumption | rfl) only [↓reduceIte, go_sem, Nat.reduceLT, Nat.reduceEqDiff, Nat.reduceSub]
 refine hK _ _ ?_; clear hK hgd; clear K; try clear gd
 have hE13 := hE12.trans hE3
 have d3 := sv_cells (n := 2) hB3 rfl
 have hcv3 := hcv.ext hE3
 repeat refine c_r ?_
 refine rq ?_; intro gd K hgd hK
 try simp (disch := first | omega | assumption | rfl) only [↓reduceIte, go_sem, Nat.reduceLT, Nat.reduceEqDiff, Nat.reduceSub, h2, h3, d3]
 refine Fn.mono (Zone_ok (good_zone hC hE13 (ho.ext hE13) hcv3 go) hC.gd (hq.ext hE13) mq) ?_
 rintro _ w4 ⟨hE4, cs, rfl, hres⟩
 have hE14 := hE13.trans hE4
 have hra := hres.at hE14
 try simp (disch := first | omega | assumption | rfl) only [↓reduceIte, go_sem, Nat.reduceLT, Nat.reduceEqDiff, Nat.reduceSub]
 refine sv_new (P := Tryz.prog) (l := cs) (by rw [hres.cells.1]; rfl) hres.cells.2 (by rw [hres.cells.1]; rfl) rfl ?_
 intro w5 hE5 hs5 hB5
 try simp (disch := first | omega | assumption | rfl) only [↓reduceIte, go_sem, Nat.reduceLT, Nat.reduceEqDiff, Nat.reduceSub]
 refine hK _ _ ?_; clear hK hgd; clear K; try clear gd
 have hE35 := hE4.trans hE5
 have hE15 := hE13.trans hE35
 have hra5 := hra.ext hE5
 have d3' := cellsO_ext hE35 d3
 repeat refine c_r ?_
 refine rq ?_; intro gd K hgd hK
 try simp (disch := first | omega | assumption | rfl) only [↓reduceIte, go_sem, Nat.reduceLT, Nat.reduceEqDiff, Nat.reduceSub, h2, h4, d3']
 refine Fn.mono (Zone_ok (t := u) (good_zone hC hE15 (ho.ext hE15) (hcv3.ext hE35) go) hC.gd (hq.ext hE15) mq) ?_
 rintro _ w6 ⟨hE6, cs2, rfl, hres2⟩
 have hE16 := hE15.trans hE6
 have hrb := hres2.at hE16
 try simp (disch := first | omega | assumption | rfl) only [↓reduceIte, go_sem, Nat.reduceLT, Nat.reduceEqDiff, Nat.reduceSub]
 refine sv_new (P := Tryz.prog) (l := cs2) (by rw [hres2.cells.1]; rfl) hres2.cells.2 (by rw [hres2.cells.1]; rfl) rfl ?_
 intro w7 hE7 hs7 hB7
 try simp (disch := first | omega | assumption | rfl) only [↓reduceIte, go_sem, Nat.reduceLT, Nat.reduceEqDiff, Nat.reduceSub]
 refine hK _ _ ?_; clear hK hgd; clear K; try clear gd
 have hE57 := hE6.trans hE7
 have hE17 := hE15.trans hE57
 have hra7 := hra5.ext hE57
 have hrb7 := hrb.ext hE7
 have hB57 := Ext.at hE57 hB5
 obtain ⟨b5, hb5⟩ : ∃ b, w4.heap.size = b := ⟨_, rfl⟩
 obtain ⟨b7, hb7⟩ : ∃ b, w6.heap.size = b := ⟨_, rfl⟩
 rw [hb5] at hB57
 rw [hb7] at hB7
 obtain ⟨dv, nv, gv, rfl, a1, a2, a3⟩ := hra7.ex
 obtain ⟨dv2, nv2, gv2, rfl, e1, e2, e3⟩ := hrb7.ex
 obtain ⟨a, hx⟩ : ∃ a, lookL o (canonL R) q t = a := ⟨_, rfl⟩
 obtain ⟨c, hy⟩ : ∃ c, lookL o (canonL R) q u = c := ⟨_, rfl⟩
 rw [hx] at lt1 lt2 lt3 lt4 lt5 a1 a2 a3 hB57 ka
 rw [hy] at lt2 lt3 lt4 lt5 hB7
 clear hra7 hrb7 hra hrb hra5 hres hres2
 obtain ⟨ad, cd, hdv, hcd, hgd⟩ := a1.open
 have hdl := ka.dl
 have p0 : cellO w7 (some ⟨b5, 0, Option.none⟩) = some (vi a.kind) := cellO_at hB57 rfl
 have p1 : cellO w7 (some ⟨b5, 1, Option.none⟩) = some dv := cellO_at hB57 rfl
 have q0 : cellO w7 (some ⟨b7, 0, Option.none⟩) = some (vi c.kind) := cellO_at hB7 rfl
 rw [hdv] at p1
 repeat refine c_r ?_
 refine rg0 ?_
 repeat refine c_r ?_
 refine W_mono (Q := fun e σ' ds' A => e = .exit 0 ∧ ds' = [] ∧ σ' 12 = .pointer (some ⟨b5, 0, Option.none⟩) ∧ σ' 13 = .pointer (some ⟨b7, 0, Option.none⟩) ∧ Ext w7 A) ?_ ?_
 ·refine W_loop (fun m σ ds A => ds = [] ∧ ∃ (i : Nat), i + m = a.data.length ∧ σ 14 = vi i ∧ σ 3 = vi t ∧ σ 12 = .pointer (some ⟨b5, 0, Option.none⟩) ∧ σ 13 = .pointer (some ⟨b7, 0, Option.none⟩) ∧ Ext w7 A) a.data.length ?_ ?_
  ·exact ⟨rfl, 0, by omega, vr0, (vq1 h3), by rw [← hb5]; simp only [↓reduceIte, go_sem, Nat.reduceLT, Nat.reduceEqDiff, Nat.reduceSub], by rw [← hb7]; simp only [↓reduceIte, go_sem, Nat.reduceLT, Nat.reduceEqDiff, Nat.reduceSub], Keep.refl _ _⟩
  rintro m σ ds A ⟨rfl, i, him, h14, h3, h12, h13, hEA⟩
  have p1' := cellO_ext hEA p1
  have p0' := cellO_ext hEA p0
  repeat refine c_r ?_
  refine rg4 h14 h12 p1' Nat.zero_add ?_
  repeat refine c_r ?_
  refine wc0 ?_ ?_
  ·intro hlt
   simp only [decide_eq_true_eq] at hlt
   have hi : i < a.data.length := by omega
   have hi0 : (0 : Int) ≤ (i : Int) := by omega
   have hi1 : (i : Int) < (a.data.length : Int) := by omega
   have hi1' : (i : Int) + 1 = ((i + 1 : Nat) : Int) := by push_cast; rfl
   obtain ⟨cs, hcs, hDat⟩ := hgd i hi
   obtain ⟨d, hdd⟩ : ∃ d, a.data[i] = d := ⟨_, rfl⟩
   have hbad := lt1 d (hdd ▸ List.getElem_mem hi)
   rw [hdd] at hDat
   obtain ⟨f1, f2, f3, f4, rfl, _⟩ := hDat
   obtain ⟨xD, rfl⟩ := Option.isSome_iff_exists.1 (cellsO_some hcs)
   obtain ⟨xi, hxi⟩ : ∃ xi, adr (some xD) (i * 5) = some xi := ⟨_, rfl⟩
   rw [hxi] at hcs
   have g0 : cellO A (adr (some xi) 0) = some (vi d.ty) := cell_of_cells (cellsO_ext hEA hcs) rfl
   rw [adr_zero] at g0
   repeat refine c_r ?_
   refine rq ?_; intro gd K hgd hK; simp (disch := first | omega | assumption | rfl) only [↓reduceIte, go_sem, Nat.reduceLT, Nat.reduceEqDiff, Nat.reduceSub, h14, h12, p1', Nat.zero_add, hi0, hi1, hxi, adr_zero, g0]; refine hK _ _ ?_; clear hK hgd; clear K gd
   repeat refine c_r ?_
   refine W_mono (Q := fun e σ' ds' v' => e = .normal ∧ ds' = [] ∧ σ' 14 = vi i ∧ σ' 3 = vi t ∧ σ' 12 = .pointer (some ⟨b5, 0, Option.none⟩) ∧ σ' 13 = .pointer (some ⟨b7, 0, Option.none⟩) ∧ v' = A ∧ σ' 80 = .bool (badD a.kind t d.ty)) ?_ ?_
   ·unfold badD
    by_cases k1 : a.kind = 1
    ·have k4 : ¬ a.kind = 4 := by omega
     have k5 : ¬ a.kind = 5 := by omega
     rw [decide_eq_true k1, decide_eq_false k4, decide_eq_false k5]
     by_cases hty : d.ty = t
     ·rw [decide_eq_true hty]
      refine rq ?_; intro gd K hgd hK
      have hg3 : ∀ n σ b, wantV gd n σ (some (3, b)) = boolIs (ev n σ (.tmp 54)) b := (fun n σ b => by rw [wantV_some, show gd 3 = some 54 from (by rw [hgd]; rfl)]; rfl); have hg8 : ∀ n σ b, wantV gd n σ (some (8, b)) = boolIs (ev n σ (.tmp 59)) b := (fun n σ b => by rw [wantV_some, show gd 8 = some 59 from (by rw [hgd]; rfl)]; rfl); have hg12 : ∀ n σ b, wantV gd n σ (some (12, b)) = boolIs (ev n σ (.tmp 63)) b := (fun n σ b => by rw [wantV_some, show gd 12 = some 63 from (by rw [hgd]; rfl)]; rfl); have hg17 : ∀ n σ b, wantV gd n σ (some (17, b)) = boolIs (ev n σ (.tmp 68)) b := (fun n σ b => by rw [wantV_some, show gd 17 = some 68 from (by rw [hgd]; rfl)]; rfl); have hg21 : ∀ n σ b, wantV gd n σ (some (21, b)) = boolIs (ev n σ (.tmp 72)) b := (fun n σ b => by rw [wantV_some, show gd 21 = some 72 from (by rw [hgd]; rfl)]; rfl); have hg25 : ∀ n σ b, wantV gd n σ (some (25, b)) = boolIs (ev n σ (.tmp 76)) b := (fun n σ b => by rw [wantV_some, show gd 25 = some 76 from (by rw [hgd]; rfl)]; rfl)
      try simp (disch := first | omega | assumption | rfl) only [↓reduceIte, go_sem, Nat.reduceLT, Nat.reduceEqDiff, Nat.reduceSub, h3, h12, p0', Nat.add_zero, decide_eq_true k1, decide_eq_false k4, decide_eq_false k5, decide_eq_true hty, Bool.not_true, bi_undef, ↓hg3, ↓hg8, ↓hg12, ↓hg17, ↓hg21, ↓hg25]
      refine hK _ _ ?_; clear hK hgd; clear K; try clear gd
      exact ⟨rfl, rfl, (vq1 h14), (vq1 h3), (vq1 h12), (vq1 h13), rfl, vr0⟩
     ·rw [decide_eq_false hty]
      refine rq ?_; intro gd K hgd hK
      have hg3 : ∀ n σ b, wantV gd n σ (some (3, b)) = boolIs (ev n σ (.tmp 54)) b := (fun n σ b => by rw [wantV_some, show gd 3 = some 54 from (by rw [hgd]; rfl)]; rfl); have hg8 : ∀ n σ b, wantV gd n σ (some (8, b)) = boolIs (ev n σ (.tmp 59)) b := (fun n σ b => by rw [wantV_some, show gd 8 = some 59 from (by rw [hgd]; rfl)]; rfl); have hg12 : ∀ n σ b, wantV gd n σ (some (12, b)) = boolIs (ev n σ (.tmp 63)) b := (fun n σ b => by rw [wantV_some, show gd 12 = some 63 from (by rw [hgd]; rfl)]; rfl); have hg17 : ∀ n σ b, wantV gd n σ (some (17, b)) = boolIs (ev n σ (.tmp 68)) b := (fun n σ b => by rw [wantV_some, show gd 17 = some 68 from (by rw [hgd]; rfl)]; rfl); have hg21 : ∀ n σ b, wantV gd n σ (some (21, b)) = boolIs (ev n σ (.tmp 72)) b := (fun n σ b => by rw [wantV_some, show gd 21 = some 72 from (by rw [hgd]; rfl)]; rfl); have hg25 : ∀ n σ b, wantV gd n σ (some (25, b)) = boolIs (ev n σ (.tmp 76)) b := (fun n σ b => by rw [wantV_some, show gd 25 = some 76 from (by rw [hgd]; rfl)]; rfl)
      try simp (disch := first | omega | assumption | rfl) only [↓reduceIte, go_sem, Nat.reduceLT, Nat.reduceEqDiff, Nat.reduceSub, h3, h12, p0', Nat.add_zero, decide_eq_true k1, decide_eq_false k4, decide_eq_false k5, decide_eq_false hty, Bool.not_false, bi_undef, ↓hg3, ↓hg8, ↓hg12, ↓hg17, ↓hg21, ↓hg25]
      refine hK _ _ ?_; clear hK hgd; clear K; try clear gd
      exact ⟨rfl, rfl, (vq1 h14), (vq1 h3), (vq1 h12), (vq1 h13), rfl, vr0⟩
    ·by_cases k4 : a.kind = 4
     ·have k5 : ¬ a.kind = 5 := by omega
      rw [decide_eq_false k1, decide_eq_true k4, decide_eq_false k5]
      by_cases hty : d.ty = 2
      ·rw [decide_eq_true hty]
       refine rq ?_; intro gd K hgd hK
       have hg3 : ∀ n σ b, wantV gd n σ (some (3, b)) = boolIs (ev n σ (.tmp 54)) b := (fun n σ b => by rw [wantV_some, show gd 3 = some 54 from (by rw [hgd]; rfl)]; rfl); have hg8 : ∀ n σ b, wantV gd n σ (some (8, b)) = boolIs (ev n σ (.tmp 59)) b := (fun n σ b => by rw [wantV_some, show gd 8 = some 59 from (by rw [hgd]; rfl)]; rfl); have hg12 : ∀ n σ b, wantV gd n σ (some (12, b)) = boolIs (ev n σ (.tmp 63)) b := (fun n σ b => by rw [wantV_some, show gd 12 = some 63 from (by rw [hgd]; rfl)]; rfl); have hg17 : ∀ n σ b, wantV gd n σ (some (17, b)) = boolIs (ev n σ (.tmp 68)) b := (fun n σ b => by rw [wantV_some, show gd 17 = some 68 from (by rw [hgd]; rfl)]; rfl); have hg21 : ∀ n σ b, wantV gd n σ (some (21, b)) = boolIs (ev n σ (.tmp 72)) b := (fun n σ b => by rw [wantV_some, show gd 21 = some 72 from (by rw [hgd]; rfl)]; rfl); have hg25 : ∀ n σ b, wantV gd n σ (some (25, b)) = boolIs (ev n σ (.tmp 76)) b := (fun n σ b => by rw [wantV_some, show gd 25 = some 76 from (by rw [hgd]; rfl)]; rfl)
       try simp (disch := first | omega | assumption | rfl) only [↓reduceIte, go_sem, Nat.reduceLT, Nat.reduceEqDiff, Nat.reduceSub, h3, h12, p0', Nat.add_zero, decide_eq_false k1, decide_eq_true k4, decide_eq_false k5, decide_eq_true hty, Bool.not_true, bi_undef, ↓hg3, ↓hg8, ↓hg12, ↓hg17, ↓hg21, ↓hg25]
       refine hK _ _ ?_; clear hK hgd; clear K; try clear gd
       exact ⟨rfl, rfl, (vq1 h14), (vq1 h3), (vq1 h12), (vq1 h13), rfl, vr0⟩
      ·rw [decide_eq_false hty]
       refine rq ?_; intro gd K hgd hK
       have hg3 : ∀ n σ b, wantV gd n σ (some (3, b)) = boolIs (ev n σ (.tmp 54)) b := (fun n σ b => by rw [wantV_some, show gd 3 = some 54 from (by rw [hgd]; rfl)]; rfl); have hg8 : ∀ n σ b, wantV gd n σ (some (8, b)) = boolIs (ev n σ (.tmp 59)) b := (fun n σ b => by rw [wantV_some, show gd 8 = some 59 from (by rw [hgd]; rfl)]; rfl); have hg12 : ∀ n σ b, wantV gd n σ (some (12, b)) = boolIs (ev n σ (.tmp 63)) b := (fun n σ b => by rw [wantV_some, show gd 12 = some 63 from (by rw [hgd]; rfl)]; rfl); have hg17 : ∀ n σ b, wantV gd n σ (some (17, b)) = boolIs (ev n σ (.tmp 68)) b := (fun n σ b => by rw [wantV_some, show gd 17 = some 68 from (by rw [hgd]; rfl)]; rfl); have hg21 : ∀ n σ b, wantV gd n σ (some (21, b)) = boolIs (ev n σ (.tmp 72)) b := (fun n σ b => by rw [wantV_some, show gd 21 = some 72 from (by rw [hgd]; rfl)]; rfl); have hg25 : ∀ n σ b, wantV gd n σ (some (25, b)) = boolIs (ev n σ (.tmp 76)) b := (fun n σ b => by rw [wantV_some, show gd 25 = some 76 from (by rw [hgd]; rfl)]; rfl)
       try simp (disch := first | omega | assumption | rfl) only [↓reduceIte, go_sem, Nat.reduceLT, Nat.reduceEqDiff, Nat.reduceSub, h3, h12, p0', Nat.add_zero, decide_eq_false k1, decide_eq_true k4, decide_eq_false k5, decide_eq_false hty, Bool.not_false, bi_undef, ↓hg3, ↓hg8, ↓hg12, ↓hg17, ↓hg21, ↓hg25]
       refine hK _ _ ?_; clear hK hgd; clear K; try clear gd
       exact ⟨rfl, rfl, (vq1 h14), (vq1 h3), (vq1 h12), (vq1 h13), rfl, vr0⟩
     ·by_cases k5 : a.kind = 5
      ·rw [decide_eq_false k1, decide_eq_false k4, decide_eq_true k5]
       by_cases hty : d.ty = 5
       ·rw [decide_eq_true hty]
        refine rq ?_; intro gd K hgd hK
        have hg3 : ∀ n σ b, wantV gd n σ (some (3, b)) = boolIs (ev n σ (.tmp 54)) b := (fun n σ b => by rw [wantV_some, show gd 3 = some 54 from (by rw [hgd]; rfl)]; rfl); have hg8 : ∀ n σ b, wantV gd n σ (some (8, b)) = boolIs (ev n σ (.tmp 59)) b := (fun n σ b => by rw [wantV_some, show gd 8 = some 59 from (by rw [hgd]; rfl)]; rfl); have hg12 : ∀ n σ b, wantV gd n σ (some (12, b)) = boolIs (ev n σ (.tmp 63)) b := (fun n σ b => by rw [wantV_some, show gd 12 = some 63 from (by rw [hgd]; rfl)]; rfl); have hg17 : ∀ n σ b, wantV gd n σ (some (17, b)) = boolIs (ev n σ (.tmp 68)) b := (fun n σ b => by rw [wantV_some, show gd 17 = some 68 from (by rw [hgd]; rfl)]; rfl); have hg21 : ∀ n σ b, wantV gd n σ (some (21, b)) = boolIs (ev n σ (.tmp 72)) b := (fun n σ b => by rw [wantV_some, show gd 21 = some 72 from (by rw [hgd]; rfl)]; rfl); have hg25 : ∀ n σ b, wantV gd n σ (some (25, b)) = boolIs (ev n σ (.tmp 76)) b := (fun n σ b => by rw [wantV_some, show gd 25 = some 76 from (by rw [hgd]; rfl)]; rfl)
        try simp (disch := first | omega | assumption | rfl) only [↓reduceIte, go_sem, Nat.reduceLT, Nat.reduceEqDiff, Nat.reduceSub, h3, h12, p0', Nat.add_zero, decide_eq_false k1, decide_eq_false k4, decide_eq_true k5, decide_eq_true hty, Bool.not_true, bi_undef, ↓hg3, ↓hg8, ↓hg12, ↓hg17, ↓hg21, ↓hg25]
        refine hK _ _ ?_; clear hK hgd; clear K; try clear gd
        exact ⟨rfl, rfl, (vq1 h14), (vq1 h3), (vq1 h12), (vq1 h13), rfl, vr0⟩
       ·rw [decide_eq_false hty]
        by_cases ht9 : d.ty = 39
        ·rw [decide_eq_true ht9]
         refine rq ?_; intro gd K hgd hK
         have hg3 : ∀ n σ b, wantV gd n σ (some (3, b)) = boolIs (ev n σ (.tmp 54)) b := (fun n σ b => by rw [wantV_some, show gd 3 = some 54 from (by rw [hgd]; rfl)]; rfl); have hg8 : ∀ n σ b, wantV gd n σ (some (8, b)) = boolIs (ev n σ (.tmp 59)) b := (fun n σ b => by rw [wantV_some, show gd 8 = some 59 from (by rw [hgd]; rfl)]; rfl); have hg12 : ∀ n σ b, wantV gd n σ (some (12, b)) = boolIs (ev n σ (.tmp 63)) b := (fun n σ b => by rw [wantV_some, show gd 12 = some 63 from (by rw [hgd]; rfl)]; rfl); have hg17 : ∀ n σ b, wantV gd n σ (some (17, b)) = boolIs (ev n σ (.tmp 68)) b := (fun n σ b => by rw [wantV_some, show gd 17 = some 68 from (by rw [hgd]; rfl)]; rfl); have hg21 : ∀ n σ b, wantV gd n σ (some (21, b)) = boolIs (ev n σ (.tmp 72)) b := (fun n σ b => by rw [wantV_some, show gd 21 = some 72 from (by rw [hgd]; rfl)]; rfl); have hg25 : ∀ n σ b, wantV gd n σ (some (25, b)) = boolIs (ev n σ (.tmp 76)) b := (fun n σ b => by rw [wantV_some, show gd 25 = some 76 from (by rw [hgd]; rfl)]; rfl)
         try simp (disch := first | omega | assumption | rfl) only [↓reduceIte, go_sem, Nat.reduceLT, Nat.reduceEqDiff, Nat.reduceSub, h3, h12, p0', Nat.add_zero, decide_eq_false k1, decide_eq_false k4, decide_eq_true k5, decide_eq_false hty, decide_eq_true ht9, Bool.not_true, Bool.not_false, bi_undef, ↓hg3, ↓hg8, ↓hg12, ↓hg17, ↓hg21, ↓hg25]
         refine hK _ _ ?_; clear hK hgd; clear K; try clear gd
         exact ⟨rfl, rfl, (vq1 h14), (vq1 h3), (vq1 h12), (vq1 h13), rfl, vr0⟩
        ·rw [decide_eq_false ht9]
         refine rq ?_; intro gd K hgd hK
         have hg3 : ∀ n σ b, wantV gd n σ (some (3, b)) = boolIs (ev n σ (.tmp 54)) b := (fun n σ b => by rw [wantV_some, show gd 3 = some 54 from (by rw [hgd]; rfl)]; rfl); have hg8 : ∀ n σ b, wantV gd n σ (some (8, b)) = boolIs (ev n σ (.tmp 59)) b := (fun n σ b => by rw [wantV_some, show gd 8 = some 59 from (by rw [hgd]; rfl)]; rfl); have hg12 : ∀ n σ b, wantV gd n σ (some (12, b)) = boolIs (ev n σ (.tmp 63)) b := (fun n σ b => by rw [wantV_some, show gd 12 = some 63 from (by rw [hgd]; rfl)]; rfl); have hg17 : ∀ n σ b, wantV gd n σ (some (17, b)) = boolIs (ev n σ (.tmp 68)) b := (fun n σ b => by rw [wantV_some, show gd 17 = some 68 from (by rw [hgd]; rfl)]; rfl); have hg21 : ∀ n σ b, wantV gd n σ (some (21, b)) = boolIs (ev n σ (.tmp 72)) b := (fun n σ b => by rw [wantV_some, show gd 21 = some 72 from (by rw [hgd]; rfl)]; rfl); have hg25 : ∀ n σ b, wantV gd n σ (some (25, b)) = boolIs (ev n σ (.tmp 76)) b := (fun n σ b => by rw [wantV_some, show gd 25 = some 76 from (by rw [hgd]; rfl)]; rfl)
         try simp (disch := first | omega | assumption | rfl) only [↓reduceIte, go_sem, Nat.reduceLT, Nat.reduceEqDiff, Nat.reduceSub, h3, h12, p0', Nat.add_zero, decide_eq_false k1, decide_eq_false k4, decide_eq_true k5, decide_eq_false hty, decide_eq_false ht9, Bool.not_false, bi_undef, ↓hg3, ↓hg8, ↓hg12, ↓hg17, ↓hg21, ↓hg25]
         refine hK _ _ ?_; clear hK hgd; clear K; try clear gd
         exact ⟨rfl, rfl, (vq1 h14), (vq1 h3), (vq1 h12), (vq1 h13), rfl, vr0⟩
      ·rw [decide_eq_false k1, decide_eq_false k4, decide_eq_false k5]
       refine rq ?_; intro gd K hgd hK
       have hg3 : ∀ n σ b, wantV gd n σ (some (3, b)) = boolIs (ev n σ (.tmp 54)) b := (fun n σ b => by rw [wantV_some, show gd 3 = some 54 from (by rw [hgd]; rfl)]; rfl); have hg8 : ∀ n σ b, wantV gd n σ (some (8, b)) = boolIs (ev n σ (.tmp 59)) b := (fun n σ b => by rw [wantV_some, show gd 8 = some 59 from (by rw [hgd]; rfl)]; rfl); have hg12 : ∀ n σ b, wantV gd n σ (some (12, b)) = boolIs (ev n σ (.tmp 63)) b := (fun n σ b => by rw [wantV_some, show gd 12 = some 63 from (by rw [hgd]; rfl)]; rfl); have hg17 : ∀ n σ b, wantV gd n σ (some (17, b)) = boolIs (ev n σ (.tmp 68)) b := (fun n σ b => by rw [wantV_some, show gd 17 = some 68 from (by rw [hgd]; rfl)]; rfl); have hg21 : ∀ n σ b, wantV gd n σ (some (21, b)) = boolIs (ev n σ (.tmp 72)) b := (fun n σ b => by rw [wantV_some, show gd 21 = some 72 from (by rw [hgd]; rfl)]; rfl); have hg25 : ∀ n σ b, wantV gd n σ (some (25, b)) = boolIs (ev n σ (.tmp 76)) b := (fun n σ b => by rw [wantV_some, show gd 25 = some 76 from (by rw [hgd]; rfl)]; rfl)
       try simp (disch := first | omega | assumption | rfl) only [↓reduceIte, go_sem, Nat.reduceLT, Nat.reduceEqDiff, Nat.reduceSub, h3, h12, p0', Nat.add_zero, decide_eq_false k1, decide_eq_false k4, decide_eq_false k5, bi_undef, ↓hg3, ↓hg8, ↓hg12, ↓hg17, ↓hg21, ↓hg25]
       refine hK _ _ ?_; clear hK hgd; clear K; try clear gd
       exact ⟨rfl, rfl, (vq1 h14), (vq1 h3), (vq1 h12), (vq1 h13), rfl, vr0⟩
   clear h3 h12 h13 h14
   rintro _ σ2 _ A2 ⟨rfl, rfl, h14, h3, h12, h13, rfl, h80⟩
   rw [hbad] at h80
   repeat refine c_r ?_
   refine W_cond (t := false) ((vq1 h80)) (fun h => by cases h) ?_
   intro _
   repeat refine c_r ?_
   refine rg2 h14 hi1' ?_
   repeat refine c_r ?_
   exact ⟨m - 1, by omega, rfl, i + 1, by omega, vq0, (vq1 h3), (vq1 h12), (vq1 h13), hEA⟩
  ·intro hge
   repeat refine c_r ?_
   exact ⟨rfl, rfl, (vq1 h12), (vq1 h13), hEA⟩
 rintro _ σ2 _ A ⟨rfl, rfl, h12, h13, hEA⟩
 have p0' := cellO_ext hEA p0
 have q0' := cellO_ext hEA q0
 repeat refine c_r ?_
 obtain ⟨x1, hx1⟩ : ∃ x, decide (a.kind = 1) = x := ⟨_, rfl⟩
 obtain ⟨x2, hx2⟩ : ∃ x, decide (a.kind = 2) = x := ⟨_, rfl⟩
 obtain ⟨y1, hy1⟩ : ∃ x, decide (c.kind = 1) = x := ⟨_, rfl⟩
 obtain ⟨y2, hy2⟩ : ∃ x, decide (c.kind = 2) = x := ⟨_, rfl⟩
 obtain ⟨y5, hy5⟩ : ∃ x, decide (c.kind = 5) = x := ⟨_, rfl⟩
 have hno : ((x1 || x2) && (!y1 && (!y2 && !y5))) = false := by
  subst hx1 hx2 hy1 hy2 hy5
  rcases Classical.em (a.kind = 1 ∨ a.kind = 2) with h | h
  ·rcases lt2 h with h' | h' | h' <;> simp [h']
  ·simp only [not_or] at h
   simp [h.1, h.2]
 refine W_mono (Q := fun e σ' ds' v' => e = .normal ∧ ds' = [] ∧ σ' 12 = .pointer (some ⟨b5, 0, Option.none⟩) ∧ σ' 13 = .pointer (some ⟨b7, 0, Option.none⟩) ∧ v' = A ∧ σ' 103 = .bool ((x1 || x2) && (!y1 && (!y2 && !y5)))) ?_ ?_
 ·clear hno
  cases x1 <;> cases x2 <;> cases y1 <;> cases y2 <;> cases y5
  all_goals
   refine rq ?_; intro gd K hgd hK
   have hg3 : ∀ n σ b, wantV gd n σ (some (3, b)) = boolIs (ev n σ (.tmp 84)) b := (fun n σ b => by rw [wantV_some, show gd 3 = some 84 from (by rw [hgd]; rfl)]; rfl); have hg8 : ∀ n σ b, wantV gd n σ (some (8, b)) = boolIs (ev n σ (.tmp 89)) b := (fun n σ b => by rw [wantV_some, show gd 8 = some 89 from (by rw [hgd]; rfl)]; rfl); have hg13 : ∀ n σ b, wantV gd n σ (some (13, b)) = boolIs (ev n σ (.tmp 94)) b := (fun n σ b => by rw [wantV_some, show gd 13 = some 94 from (by rw [hgd]; rfl)]; rfl); have hg18 : ∀ n σ b, wantV gd n σ (some (18, b)) = boolIs (ev n σ (.tmp 99)) b := (fun n σ b => by rw [wantV_some, show gd 18 = some 99 from (by rw [hgd]; rfl)]; rfl)
   try simp (disch := first | omega | assumption | rfl) only [↓reduceIte, go_sem, Nat.reduceLT, Nat.reduceEqDiff, Nat.reduceSub, h12, h13, p0', q0', Nat.add_zero, hx1, hx2, hy1, hy2, hy5, Bool.not_true, Bool.not_false, bi_undef, ↓hg3, ↓hg8, ↓hg13, ↓hg18]
   refine hK _ _ ?_; clear hK hgd; clear K; try clear gd
   exact ⟨rfl, rfl, (vq1 h12), (vq1 h13), rfl, vr0⟩
 rw [hno]
 clear h12 h13
 rintro _ σ3 _ A3 ⟨rfl, rfl, h12, h13, rfl, h103⟩
 repeat refine c_r ?_
 refine W_cond (t := false) ((vq1 h103)) (fun h => by cases h) ?_
 intro _
 obtain ⟨z3, g3⟩ : ∃ x, decide (a.kind = 3) = x := ⟨_, rfl⟩
 obtain ⟨z4, g4⟩ : ∃ x, decide (a.kind = 4) = x := ⟨_, rfl⟩
 obtain ⟨z7, g7⟩ : ∃ x, decide (a.kind = 7) = x := ⟨_, rfl⟩
 have k3 : decide (c.kind = 3) = z3 := by rw [← g3]; exact decide_eq_decide.2 lt3.symm
 have k4 : decide (c.kind = 4) = z4 := by rw [← g4]; exact decide_eq_decide.2 lt4.symm
 have k7 : decide (c.kind = 7) = z7 := by rw [← g7]; exact decide_eq_decide.2 lt5.symm
 repeat refine c_r ?_
 refine W_mono (Q := fun e σ' ds' v' => e = .normal ∧ ds' = [] ∧ v' = A3 ∧ σ' 10 = .bool true) ?_ ?_
 ·cases z3 <;> cases z4 <;> cases z7
  all_goals
   refine rq ?_; intro gd K hgd hK
   have hg7 : ∀ n σ b, wantV gd n σ (some (7, b)) = boolIs (ev n σ (.tmp 111)) b := (fun n σ b => by rw [wantV_some, show gd 7 = some 111 from (by rw [hgd]; rfl)]; rfl); have hg16 : ∀ n σ b, wantV gd n σ (some (16, b)) = boolIs (ev n σ (.tmp 120)) b := (fun n σ b => by rw [wantV_some, show gd 16 = some 120 from (by rw [hgd]; rfl)]; rfl)
   try simp (disch := first | omega | assumption | rfl) only [↓reduceIte, go_sem, Nat.reduceLT, Nat.reduceEqDiff, Nat.reduceSub, h12, h13, p0', q0', Nat.add_zero, g3, g4, g7, k3, k4, k7, bi_undef, ↓hg7, ↓hg16]
   refine hK _ _ ?_; clear hK hgd; clear K; try clear gd
   exact ⟨rfl, rfl, rfl, vr0⟩
 rintro _ σ4 _ A4 ⟨rfl, rfl, rfl, h10⟩
 repeat refine c_r ?_
 refine rt1 h10 Tryz.ntmps6 ?_
 exact ⟨rfl, hE17.trans hEA⟩
end Go.Proofs.YtopbbjdembnfdaaGreat
