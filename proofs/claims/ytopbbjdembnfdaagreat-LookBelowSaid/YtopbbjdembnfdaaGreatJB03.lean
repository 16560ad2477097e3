/-
  Texts of a proof, joined: M3a, N2, KN, CP, Q0int, K14, R2, R3, Q1, Q2, QCcn, QCcu, QCct, Q0uint32, Q3, K15, K16, D0, KR, D1, D2, K17, D3, SS0, SO.
  Conditions: none.
-/
import Derived.CallsIn
import Derived.Test.YtopbbjdembnfdaaGreatJB02
import Derived.Test.YtopbbjdembnfdaaGreatJB01
import Derived.Laws.Externs
set_option linter.unusedVariables false
set_option linter.unusedSimpArgs false
set_option linter.defProp false
set_option linter.unnecessarySimpa false
namespace Go.Proofs.YtopbbjdembnfdaaGreat
open Go
set_option maxRecDepth 10000

theorem Fn.of_calls {P : Program} {f : FuncId} {args : Array Value} {w : World} {R : Value → World → Prop} (h : Calls P f args w (fun e w' => ∃ v, e = .returned v ∧ R v w')) : Fn P f args w R := callsIn_wide.2 h
theorem SCompare_ok (w : World) (a b : Lab) : Fn Tryz.prog 170 #[vs a, vs b] w (fun v w' => v = vi (cmpL a b) ∧ w' = w) :=
 Fn.of_calls (Calls.mono (Any.strings_Compare Tryz.lays106 ⟨a.toArray⟩ ⟨b.toArray⟩ w) fun _ _ ⟨he, hw⟩ => ⟨_, he, rfl, hw⟩)

theorem LCompare_ok (w : World) (a b : Lab) (ha : a.length ≤ 9000000000000000000) (hb : b.length ≤ 9000000000000000000) : Fn Tryz.prog 119 #[vs a, vs b] w (fun v w' => v = vi (cmpL (foldL a) (foldL b)) ∧ Ext w w') := by
 refine enter Tryz.func119 Tryz.ntmps119 rfl rfl ?_
 repeat (first | refine c_r ?_ | refine rg0 ?_)
 refine rq ?_; intro gd K hgd hK
 try simp (disch := first | omega | assumption | rfl) only [↓reduceIte, go_sem, Nat.reduceLT, Nat.reduceEqDiff, Nat.reduceSub]
 refine Fn.mono (LFold_ok _ _ ha) ?_
 rintro _ w1 ⟨rfl, hE1⟩
 try simp (disch := first | omega | assumption | rfl) only [↓reduceIte, go_sem, Nat.reduceLT, Nat.reduceEqDiff, Nat.reduceSub]
 refine Fn.mono (LFold_ok _ _ hb) ?_
 rintro _ w2 ⟨rfl, hE2⟩
 try simp (disch := first | omega | assumption | rfl) only [↓reduceIte, go_sem, Nat.reduceLT, Nat.reduceEqDiff, Nat.reduceSub]
 refine Fn.mono (SCompare_ok _ _ _) ?_
 rintro _ w3 ⟨rfl, rfl⟩
 try simp (disch := first | omega | assumption | rfl) only [↓reduceIte, go_sem, Nat.reduceLT, Nat.reduceEqDiff, Nat.reduceSub]
 refine hK _ _ ?_; clear hK hgd; clear K; try clear gd
 repeat refine c_r ?_
 refine rt0 Tryz.ntmps119 ?_
 exact ⟨rfl, hE1.trans hE2⟩

theorem s_clip {P : Program} {e : TypeId} {ad : Option Addr} {n c : Nat} {k k' : IntKind} (h : n ≤ c) (hi : (P.info? e).isSome = true) :
  slD P (some (.slice e)) (.slice ad n c) Option.none (some (.int k n)) (some (.int k' n)) = some (.slice ad n n) := by
 have e1 : slB Option.none = some 0 := rfl
 have e2 : ∀ (k : IntKind) (d : Nat), slH (some (.int k (n : Int))) d = some n := fun k d => by simp [slH]
 simp only [slD, e1, e2]
 simp [h, hi, adr_zero]

--?? slices.Clip[[]string,string]
end Go.Proofs.YtopbbjdembnfdaaGreat

namespace Go.Proofs.YtopbbjdembnfdaaGreat
open Go
set_option maxRecDepth 10000

theorem Row.shut {w x : World} {v : Value} {l : List Value} {D : Nat} {c : Option (List Deferred)} (h : Row w v l) (hD : w.heap[D]? = some (.deferred c)) (hk : Keep (fun b => b = D) w x) : Row x v l := by
 obtain ⟨a, cp, rfl, hc, hl⟩ := h
 refine ⟨a, cp, rfl, hc, fun j hj => cellO_keep hk (fun p hp hpD => ?_) (hl j hj)⟩
 have h1 := hl j hj
 rw [hp] at h1
 have h2 : w.cell? p = some l[j] := h1
 unfold World.cell? at h2
 rw [hpD, hD] at h2
 cases h2

def NamesAt (w : World) (v : Value) (ns : List Nm) : Prop := ∃ vals, Row w v vals ∧ vals.length = ns.length ∧ ∀ i (h : i < vals.length) (h' : i < ns.length), Row w vals[i] (ns[i].map vs)

end Go.Proofs.YtopbbjdembnfdaaGreat

namespace Go.Proofs.YtopbbjdembnfdaaGreat
open Go
section
variable {H : Type} {enc : TypeId × Value → H} {P : Program} {w : World} {base : Nat} {sp : Nat → Bool} {held : Bool}

structure NmOk (n : Nm) : Prop where
 lb : LB n
 len : n.length ≤ 100000000000000

theorem reach_lt : reachBytes < 140737488355328 := by decide

theorem rd_name {t e : TypeId} {v : Value} (h : Rd enc P w base sp held t v) (ht : P.underlying t = some (.slice e)) (hc : P.cellsOf e = 1) (he : P.underlying e = some .string) (hb : P.bytesOf e = 16) : ∃ n : Nm, Row w v (n.map vs) ∧ NmOk n := by
 obtain ⟨vals, hr, hall, hl⟩ := rd_slice h ht hc
 obtain ⟨m, rfl, hm⟩ := list_of (f := vs) (fun u hu => rd_string (hall u hu) he)
 have := reach_lt
 rw [hb] at hl
 exact ⟨m, hr, fun l hl => by have := hm l hl; omega, by simp at hl; omega⟩

theorem rd_names {t ts tb : TypeId} {v : Value} (h : Rd enc P w base sp held t v) (ht : P.underlying t = some (.slice ts)) (hc : P.cellsOf ts = 1) (ht2 : P.underlying ts = some (.slice tb)) (hc2 : P.cellsOf tb = 1) (he : P.underlying tb = some .string) (hb : P.bytesOf tb = 16) :
  ∃ L : List Nm, NamesAt w v L ∧ ∀ n ∈ L, NmOk n := by
 obtain ⟨vals, hr, hall, hlen0⟩ := rd_slice h ht hc
 have : ∃ L : List Nm, (vals.length = L.length ∧ ∀ i (h : i < vals.length) (h' : i < L.length), Row w vals[i] (L[i].map vs)) ∧ ∀ n ∈ L, NmOk n := by
  clear hr h hlen0
  induction vals with
  | nil => exact ⟨[], ⟨rfl, fun i h => by simp at h⟩, fun n h => by cases h⟩
  | cons u vals ih =>
   obtain ⟨n, hn, hok⟩ := rd_name (hall u (List.mem_cons_self ..)) ht2 hc2 he hb
   obtain ⟨L, ⟨h1, h2⟩, h3⟩ := ih (fun x hx => hall x (List.mem_cons_of_mem _ hx))
   refine ⟨n :: L, ⟨by simp [h1], fun i a b => ?_⟩, fun x hx => ?_⟩
   ·cases i with
    | zero => exact hn
    | succ i => exact h2 i (by simpa using a) (by simpa using b)
   ·rcases List.mem_cons.1 hx with rfl | hx
    ·exact hok
    ·exact h3 x hx
 obtain ⟨L, ⟨h1, h2⟩, h3⟩ := this
 exact ⟨L, ⟨vals, hr, h1, h2⟩, h3⟩
end
end Go.Proofs.YtopbbjdembnfdaaGreat

namespace Go.Proofs.YtopbbjdembnfdaaGreat
open Go

def cmpI (a b : Int) : Int := if a < b then -1 else if b < a then 1 else 0
def orI : List Int → Int
 | [] => 0
 | a :: l => if a = 0 then orI l else a
def lexC {α : Type} (cf : α → α → Int) : List α → List α → Int
 | [], [] => 0
 | [], _ :: _ => -1
 | _ :: _, [] => 1
 | x :: l, y :: m => if cf x y = 0 then lexC cf l m else cf x y

theorem orI_drop {l : List Int} {i : Nat} (h : i < l.length) : orI (l.drop i) = if l[i] = 0 then orI (l.drop (i + 1)) else l[i] := by
 rw [List.drop_eq_getElem_cons h]; rfl
theorem lexC_drop {α : Type} {cf : α → α → Int} {a b : List α} {i : Nat} (ha : i < a.length) (hb : i < b.length) : lexC cf (a.drop i) (b.drop i) = if cf a[i] b[i] = 0 then lexC cf (a.drop (i + 1)) (b.drop (i + 1)) else cf a[i] b[i] := by
 rw [List.drop_eq_getElem_cons ha, List.drop_eq_getElem_cons hb]; rfl
theorem lexC_nil {α : Type} {cf : α → α → Int} : ∀ {a b : List α}, a = [] ∨ b = [] → lexC cf a b = cmpI a.length b.length
 | [], [], _ => rfl
 | [], _ :: _, _ => by simp only [lexC, cmpI, List.length_cons, List.length_nil]; rw [if_pos (by omega)]
 | _ :: _, [], _ => by simp only [lexC, cmpI, List.length_cons, List.length_nil]; rw [if_neg (by omega), if_pos (by omega)]
 | _ :: _, _ :: _, h => by simp at h
end Go.Proofs.YtopbbjdembnfdaaGreat

namespace Go.Proofs.YtopbbjdembnfdaaGreat.N_int
open Go Go.Proofs.YtopbbjdembnfdaaGreat
set_option maxRecDepth 10000

theorem isNaN_ok (w : World) (a : Int) : Fn Tryz.prog 171 #[.int .i64 a] w (fun v w' => v = .bool false ∧ w' = w) := by
 refine enter Tryz.func171 Tryz.ntmps171 rfl rfl ?_
 repeat (first | refine c_r ?_ | (refine W_reg (by rfl) ?_; intro gd K hgd hK; simp (disch := first | omega | assumption | rfl) only [↓reduceIte, go_sem, Nat.reduceLT, Nat.reduceEqDiff, Nat.reduceSub, decide_true]; refine hK _ _ ?_; clear hK hgd; clear K gd))
 refine rt0 Tryz.ntmps171 ?_
 exact ⟨rfl, rfl⟩

theorem Compare_ok (w : World) (a b : Int) : Fn Tryz.prog 120 #[.int .i64 a, .int .i64 b] w (fun v w' => v = vi (cmpI a b) ∧ w' = w) := by
 refine enter Tryz.func120 Tryz.ntmps120 rfl rfl ?_
 repeat refine c_r ?_
 refine rg0 ?_
 repeat refine c_r ?_
 refine rq ?_; intro gd K hgd hK
 try simp (disch := first | omega | assumption | rfl) only [↓reduceIte, go_sem, Nat.reduceLT, Nat.reduceEqDiff, Nat.reduceSub]
 refine Fn.mono (isNaN_ok _ _) ?_
 rintro _ _ ⟨rfl, rfl⟩
 try simp (disch := first | omega | assumption | rfl) only [↓reduceIte, go_sem, Nat.reduceLT, Nat.reduceEqDiff, Nat.reduceSub]
 refine hK _ _ ?_; clear hK hgd; clear K; try clear gd
 repeat refine c_r ?_
 refine rq ?_; intro gd K hgd hK
 try simp (disch := first | omega | assumption | rfl) only [↓reduceIte, go_sem, Nat.reduceLT, Nat.reduceEqDiff, Nat.reduceSub]
 refine Fn.mono (isNaN_ok _ _) ?_
 rintro _ _ ⟨rfl, rfl⟩
 try simp (disch := first | omega | assumption | rfl) only [↓reduceIte, go_sem, Nat.reduceLT, Nat.reduceEqDiff, Nat.reduceSub]
 refine hK _ _ ?_; clear hK hgd; clear K; try clear gd
 repeat refine c_r ?_
 refine rg0 ?_
 repeat refine c_r ?_
 refine wc0 ?_ ?_
 ·intro h; cases h
 intro _
 repeat refine c_r ?_
 refine rg0 ?_
 repeat refine c_r ?_
 refine wc0 ?_ ?_
 ·intro h; cases h
 intro _
 repeat refine c_r ?_
 refine rg0 ?_
 repeat refine c_r ?_
 refine wc0 ?_ ?_
 ·intro h
  simp only [decide_eq_true_eq] at h
  repeat (first | refine c_r ?_ | refine rg0 ?_)
  refine rt0 Tryz.ntmps120 ?_
  exact ⟨by rw [cmpI, if_pos h], rfl⟩
 intro h
 simp only [decide_eq_false_iff_not] at h
 repeat (first | refine c_r ?_ | refine rg0 ?_)
 refine wc0 ?_ ?_
 ·intro h2
  simp only [decide_eq_true_eq] at h2
  repeat (first | refine c_r ?_ | refine rg0 ?_)
  refine rt0 Tryz.ntmps120 ?_
  exact ⟨by rw [cmpI, if_neg h, if_pos h2], rfl⟩
 intro h2
 simp only [decide_eq_false_iff_not] at h2
 repeat (first | refine c_r ?_ | refine rg0 ?_)
 refine rt0 Tryz.ntmps120 ?_
 exact ⟨by rw [cmpI, if_neg h, if_neg h2], rfl⟩
end Go.Proofs.YtopbbjdembnfdaaGreat.N_int

namespace Go.Proofs.YtopbbjdembnfdaaGreat
open Go

def Own (B : Nat) (w : World) (e : TypeId) (v : Value) (l : List Value) : Prop := w.ownsRow B e 1 v l.length l

section
variable {P : Program} {d : Option Tmp} {ty : TypeId} {ps : String} {af : Array Edge} {g : Option (Nat × Bool)} {ρ : Operand → Value} {w : World} {K : Value → World → Prop}

theorem Own.slice {B : Nat} {e : TypeId} {v : Value} {l : List Value} (h : Own B w e v l) : ∃ a c, v = .slice a l.length c := by
 rcases h.2 with ⟨rfl, h0⟩ | ⟨g, cap, cur, rfl, _⟩
 ·exact ⟨_, _, by rw [h0]⟩
 ·exact ⟨_, _, rfl⟩
theorem Own.row {B : Nat} {e : TypeId} {v : Value} {l : List Value} (h : Own B w e v l) : Row w v l := Row.of_owns h
theorem Own.rowB {B : Nat} {e : TypeId} {v : Value} {l : List Value} (h : Own B w e v l) : RowB B w v l := RowB.of_owns h
theorem Own.nil (B : Nat) (w : World) (e : TypeId) : Own B w e (.slice Option.none 0 0) [] := ⟨rfl, .inl ⟨rfl, rfl⟩⟩
theorem Own.ge {B : Nat} {e : TypeId} {v : Value} {l : List Value} (h : Own B w e v l) {b : Nat} (hb : some b = v.ownBlock) : B ≤ b ∧ b < w.heap.size := by
 rcases h.2 with ⟨rfl, _⟩ | ⟨g, cap, cur, rfl, hg, hc, _⟩
 ·cases hb
 ·cases hb; exact ⟨hg, (Array.getElem?_eq_some_iff.1 hc).1⟩
theorem Own.keep {B : Nat} {e : TypeId} {v : Value} {l : List Value} {x : World} {S : Nat → Prop} (h : Own B w e v l) (hk : Keep S w x) (hS : ∀ b, some b = v.ownBlock → ¬ S b) : Own B x e v l := by
 obtain ⟨h1, h2⟩ := h
 refine ⟨h1, ?_⟩
 rcases h2 with h2 | ⟨g, cap, cur, hv, hb, hg, rest⟩
 ·exact .inl h2
 ·exact .inr ⟨g, cap, cur, hv, hb, (hk.block _ (Array.getElem?_eq_some_iff.1 hg).1 (hS _ (by rw [hv]; rfl))).trans hg, rest⟩
theorem Own.ext {B : Nat} {e : TypeId} {v : Value} {l : List Value} {x : World} (h : Own B w e v l) (hk : Ext w x) : Own B x e v l := h.keep hk (fun _ _ h => h)
theorem Own.mono {B B' : Nat} {e : TypeId} {v : Value} {l : List Value} (h : Own B w e v l) (hB : B' ≤ B) : Own B' w e v l := by
 obtain ⟨h1, h2⟩ := h
 refine ⟨h1, ?_⟩
 rcases h2 with h2 | ⟨g, cap, cur, hv, hb, rest⟩
 ·exact .inl h2
 ·exact .inr ⟨g, cap, cur, hv, by omega, rest⟩

theorem bs_one {t e : TypeId} {z v : Value} (hu : tyU P t = some (.slice e)) (hz : tyZ P e = some z) (hs : tyS P e = 1) (hz1 : z.cells = #[z]) (hv : v.cells = #[v])
  (h : ∀ w1, Ext w w1 → w1.heap.size = w.heap.size + 1 → Own w.heap.size w1 e (.slice (some ⟨w.heap.size, 0, Option.none⟩) 1 1) [v] → K (.slice (some ⟨w.heap.size, 0, Option.none⟩) 1 1) w1) : bsL P t 1 [(0, v)] w K .mk := by
 unfold bsL bsK
 rw [bsC_one hu hz hs hz1 hv]
 exact h _ (Ext.alloc w _) (new_size w _) ⟨rfl, .inr ⟨w.heap.size, 1, #[v], rfl, Nat.le_refl _, new_block w _, Nat.le_refl _, by decide, rfl, rfl⟩⟩

theorem set2 {A : Array Value} (h : A.size = 2) (u v : Value) : (A.setIfInBounds 0 u).setIfInBounds 1 v = #[u, v] := by
 obtain ⟨l⟩ := A
 match l, h with
 | [x, y], _ => rfl
theorem bs_two {t e : TypeId} {z u v : Value} (hu : tyU P t = some (.slice e)) (hz : tyZ P e = some z) (hs : tyS P e = 1) (hz1 : z.cells = #[z]) (hu1 : u.cells = #[u]) (hv : v.cells = #[v])
  (h : ∀ w1, Ext w w1 → w1.heap.size = w.heap.size + 1 → Own w.heap.size w1 e (.slice (some ⟨w.heap.size, 0, Option.none⟩) 2 2) [u, v] → K (.slice (some ⟨w.heap.size, 0, Option.none⟩) 2 2) w1) : bsL P t 2 [(0, u), (1, v)] w K .mk := by
 unfold bsL bsK
 have : bsC P t 2 [(0, u), (1, v)] = some (e, #[u, v]) := by
  simp [bsC, hu, hz, hs, hz1, Instr.fill, hu1, hv]
  exact set2 (by simp) u v
 rw [this]
 exact h _ (Ext.alloc w _) (new_size w _) ⟨rfl, .inr ⟨w.heap.size, 2, #[u, v], rfl, Nat.le_refl _, new_block w _, Nat.le_refl _, by decide, rfl, rfl⟩⟩

theorem bs_nil {t e : TypeId} {z : Value} (hu : tyU P t = some (.slice e)) (hz : tyZ P e = some z) (hs : tyS P e = 1) (hz1 : z.cells = #[z])
  (h : ∀ w1, Ext w w1 → w1.heap.size = w.heap.size + 1 → Own w.heap.size w1 e (.slice (some ⟨w.heap.size, 0, Option.none⟩) 0 0) [] → K (.slice (some ⟨w.heap.size, 0, Option.none⟩) 0 0) w1) : bsL P t 0 [] w K .mk := by
 unfold bsL bsK
 have : bsC P t 0 [] = some (e, #[]) := by simp [bsC, hu, hz, hs, hz1, Instr.fill]
 rw [this]
 exact h _ (Ext.alloc w _) (new_size w _) ⟨rfl, .inr ⟨w.heap.size, 0, #[], rfl, Nat.le_refl _, new_block w _, Nat.le_refl _, by decide, rfl, rfl⟩⟩

theorem op_app {B : Nat} {s x : Operand} {t e : TypeId} {inf : TypeInfo} {z : Value} {bytes : Nat} {v u : Value} {l news : List Value} (hown : Own B w e v l) (hrow : Row w u news)
  (ht : tyU P t = some (.slice e)) (hi : P.info? e = some inf) (hz : inf.zero = some z)
  (hsize : inf.size = 1) (hby : inf.bytes = bytes) (hzs : z.cells.size = 1) (hv : ρ s = v) (hu : ρ x = u) 
  (h1 : ∀ q ∈ news, one q = true) (hlen : l.length + news.length ≤ 1000000000000) (hbytes : bytes ≤ 100) (hB : B ≤ w.heap.size)
  (h : ∀ v' w', Own B w' e v' (l ++ news) → (∀ w0, Ext w0 w → w0.heap.size ≤ B → Ext w0 w') → Keep (fun b => some b = v.ownBlock) w w' → (∀ b, some b = v'.ownBlock → some b = v.ownBlock ∨ w.heap.size ≤ b) → K v' w') :
  opW P ⟨d, .call ⟨.builtin .append, #[s, x], #[t, t]⟩, ty, ps, af, g⟩ ρ w K := by
 refine op_append (B := B) (m := news.length) (xs := l) (n := l.length) ht hi hz hsize hby hzs (by decide) hv hu hown (Src1.of_row hrow) h1 (by simp [maxLen]; omega) ?_ hB ?_
 ·have : (l.length + news.length) * bytes ≤ 1000000000000 * 100 := Nat.mul_le_mul hlen hbytes
  omega
 ·intro v' w' ho hk hw
  refine h v' w' (by simpa [Own] using ho) (fun w0 hE hB0 => ?_) hk hw.2
  exact Keep.to_ext hE rfl (fun b hb => by have := (Own.ge (l := l) hown hb).1; omega) hk
theorem v_min (a : Array Operand) (t : Array TypeId) : opV P ⟨d, .call ⟨.builtin .min, a, t⟩, ty, ps, af, g⟩ ρ w K = opL P ⟨d, .call ⟨.builtin .min, a, t⟩, ty, ps, af, g⟩ ρ w K .mk := nr rfl
theorem op_min {x y : Operand} {ts : Array TypeId} {k : IntKind} {a b : Int} (hx : ρ x = .int k a) (hy : ρ y = .int k b) (h : K (.int k (min a b)) w) : opW P ⟨d, .call ⟨.builtin .min, #[x, y], ts⟩, ty, ps, af, g⟩ ρ w K := by
 simp only [opW, execOp, Sem.run_bind, resolve]
 simp only [Sem.run_pure, Result.andThen_ok, invoke, builtin]
 refine opR_val (s := Builtin.min_ ts ty (Array.map ρ #[x, y])) (v := .int k (min a b)) (w' := w) ?_ h
 simp [Builtin.min_, hx, hy, Builtin.min2, Sem.run, List.foldlM]
 omega
end
attribute [go_sem] b_quo b_rem
attribute [go_sem ↓] v_min
end Go.Proofs.YtopbbjdembnfdaaGreat

namespace Go.Proofs.YtopbbjdembnfdaaGreat
open Go
set_option maxRecDepth 10000

theorem ones_vs (l : List Lab) : ∀ q ∈ l.map vs, one q = true := fun q hq => by
 obtain ⟨s, _, rfl⟩ := List.mem_map.1 hq
 rfl

def few (n : Nm) : Bool := decide (n.length ≤ 140) && n.all fun l => decide (l.length ≤ 100)

theorem few_lb {n : Nm} (h : few n = true) : LB n := fun l hl => by
 simp only [few, Bool.and_eq_true, List.all_eq_true, decide_eq_true_eq] at h
 have := h.2 l hl; omega
theorem few_len {n : Nm} (h : few n = true) : n.length ≤ 140 := by
 simp only [few, Bool.and_eq_true, decide_eq_true_eq] at h
 exact h.1

theorem Few_ok (w : World) (a : Value) (xs : Nm) (ha : Row w a (xs.map vs)) :
  Fn Tryz.prog 56 #[a] w (fun v w' => v = .bool (few xs) ∧ Ext w w') := by
 obtain ⟨a, ca, rfl, hca, hla⟩ := ha
 simp only [List.length_map] at *
 refine enter Tryz.func56 Tryz.ntmps56 rfl rfl ?_
 repeat (first | refine c_r ?_ | refine rg0 ?_)
 refine wc0 ?_ ?_
 ·intro h
  simp only [decide_eq_true_eq] at h
  repeat (first | refine c_r ?_ | refine rg0 ?_)
  refine rt0 Tryz.ntmps56 ?_
  exact ⟨by rw [few, decide_eq_false (by omega)]; rfl, Keep.refl _ _⟩
 ·intro h
  simp only [decide_eq_false_iff_not] at h
  repeat (first | refine c_r ?_ | refine rg0 ?_)
  refine W_loop (fun m σ ds A => ds = [] ∧ ∃ i : Nat, i + m = xs.length ∧ σ 3 = vi i ∧ σ 0 = .slice a xs.length ca ∧ Ext w A ∧ ∀ l ∈ xs.take i, l.length ≤ 100) xs.length ?_ ?_
  ·refine ⟨rfl, 0, by omega, ?_, ?_, Keep.refl _ _, by simp⟩ <;> simp only [↓reduceIte, go_sem, Nat.reduceLT, Nat.reduceEqDiff, Nat.reduceSub] <;> rfl
  ·rintro m σ ds A ⟨rfl, i, him, h3, h0, hE, hall⟩
   repeat refine c_r ?_
   refine rg2 h3 h0 ?_
   repeat refine c_r ?_
   refine wc0 ?_ ?_
   ·intro hlt
    simp only [decide_eq_true_eq] at hlt
    have hsa : a.isSome = true := some_of_cellO (hla i (by omega))
    have hla' := fun j h => cellO_ext hE (hla j h)
    repeat refine c_r ?_
    refine rq ?_; intro gd K hgd hK; simp (disch := first | omega | assumption | rfl) only [↓reduceIte, go_sem, Nat.reduceLT, Nat.reduceEqDiff, Nat.reduceSub, h3, h0, hla', List.getElem_map]; refine hK _ _ ?_; clear hK hgd; clear K gd
    repeat refine c_r ?_
    refine wc0 ?_ ?_
    ·intro hb
     simp only [decide_eq_true_eq] at hb
     repeat (first | refine c_r ?_ | refine rg0 ?_)
     refine rt0 Tryz.ntmps56 ?_
     refine ⟨?_, hE⟩
     have : few xs = false := by
      rw [← Bool.not_eq_true]
      intro hf
      simp only [few, Bool.and_eq_true, List.all_eq_true, decide_eq_true_eq] at hf
      have := hf.2 (xs[i]'(by omega)) (List.getElem_mem _)
      omega
     rw [this]
    ·intro hb
     simp only [decide_eq_false_iff_not] at hb
     repeat refine c_r ?_
     refine rg1 h3 ?_
     repeat refine c_r ?_
     refine ⟨m - 1, by omega, rfl, i + 1, by omega, by simp only [↓reduceIte, go_sem, Nat.reduceLT, Nat.reduceEqDiff, Nat.reduceSub]; push_cast; rfl, (vq1 h0), hE, fun l hl => ?_⟩
     rw [take_succ' (by omega)] at hl
     rcases List.mem_append.1 hl with hl | hl
     ·exact hall l hl
     ·rw [List.mem_singleton.1 hl]; omega
   ·intro hge
    simp only [decide_eq_false_iff_not] at hge
    repeat (first | refine c_r ?_ | refine rg0 ?_)
    refine rt0 Tryz.ntmps56 ?_
    refine ⟨?_, hE⟩
    rw [List.take_of_length_le (by omega)] at hall
    have : few xs = true := by
     simp only [few, Bool.and_eq_true, List.all_eq_true, decide_eq_true_eq]
     exact ⟨by omega, hall⟩
    rw [this]
end Go.Proofs.YtopbbjdembnfdaaGreat

namespace Go.Proofs.YtopbbjdembnfdaaGreat
open Go
set_option maxRecDepth 10000

theorem cmpR_neg : ∀ a b : Nm, cmpR b a = - cmpR a b
 | [], [] => rfl
 | [], _ :: _ => rfl
 | _ :: _, [] => rfl
 | a :: l, b :: m => by
  simp only [cmpR]
  rw [cmpL_neg a b]
  by_cases h : cmpL a b = 0
  ·simp [h, cmpR_neg l m]
  ·have : ¬ -cmpL a b = 0 := by omega
   simp [h, this]
theorem cmpR_zero : ∀ {a b : Nm}, cmpR a b = 0 → a = b
 | [], [], _ => rfl
 | [], _ :: _, h => by cases h
 | _ :: _, [], h => by cases h
 | a :: l, b :: m, h => by
  simp only [cmpR] at h
  split at h
  ·rename_i h'; rw [cmpL_zero h', cmpR_zero h]
  ·rename_i h'; exact absurd h h'
theorem cmpR_trans : ∀ {a b c : Nm}, cmpR a b < 0 → cmpR b c < 0 → cmpR a c < 0
 | [], [], _, h, _ => by simp [cmpR] at h
 | [], _ :: _, [], _, h => by simp [cmpR] at h
 | [], _ :: _, _ :: _, _, _ => by simp [cmpR]
 | _ :: _, [], _, h, _ => by simp [cmpR] at h
 | _ :: _, _ :: _, [], _, h => by simp [cmpR] at h
 | a :: l, b :: m, c :: n, h1, h2 => by
  simp only [cmpR] at *
  by_cases e1 : cmpL a b = 0
  ·rw [if_pos e1] at h1
   have := cmpL_zero e1
   subst this
   by_cases e2 : cmpL a c = 0
   ·rw [if_pos e2] at h2 ⊢; exact cmpR_trans h1 h2
   ·rw [if_neg e2] at h2 ⊢; exact h2
  ·rw [if_neg e1] at h1
   have h2' : cmpL b c ≤ 0 := by
    by_cases e2 : cmpL b c = 0
    ·omega
    ·rw [if_neg e2] at h2; omega
   have := cmpL_lt_trans h1 h2'
   rw [if_neg (by omega)]; exact this

theorem cmpN_neg (a b : Nm) : cmpN b a = - cmpN a b := cmpR_neg _ _
theorem cmpN_zero {a b : Nm} (h : cmpN a b = 0) : a = b := by
 have := cmpR_zero h
 simpa using congrArg List.reverse this
theorem cmpN_trans {a b c : Nm} (h1 : cmpN a b < 0) (h2 : cmpN b c < 0) : cmpN a c < 0 := cmpR_trans h1 h2

def Rise (L : List Nm) : Prop := L.Pairwise fun a b => cmpN a b < 0

theorem Rise.get {L : List Nm} (h : Rise L) {i j : Nat} (hij : i < j) (hj : j < L.length) : cmpN (L[i]'(by omega)) L[j] < 0 :=
 (List.pairwise_iff_getElem.1 h) i j (by omega) hj hij

theorem NamesAt.ext {w x : World} {v : Value} {L : List Nm} (h : NamesAt w v L) (hE : Ext w x) : NamesAt x v L := by
 obtain ⟨vals, h1, h2, h3⟩ := h
 exact ⟨vals, h1.ext hE, h2, fun i a b => (h3 i a b).ext hE⟩

end Go.Proofs.YtopbbjdembnfdaaGreat

namespace Go.Proofs.YtopbbjdembnfdaaGreat
open Go
set_option maxRecDepth 10000

theorem Or_ok (w : World) (a : Value) (l : List Int) (ha : Row w a (l.map vi)) (hl : l.length ≤ 1000000000000) : Fn Tryz.prog 110 #[a] w (fun v w' => v = vi (orI l) ∧ w' = w) := by
 obtain ⟨a, ca, rfl, hca, hla⟩ := ha
 simp only [List.length_map] at *
 refine enter Tryz.func110 Tryz.ntmps110 rfl rfl ?_
 repeat (first | refine c_r ?_ | refine rg0 ?_)
 refine W_loop (fun m σ ds v => ds = [] ∧ v = w ∧ ∃ i : Nat, i + m = l.length ∧ σ 8 = vi i ∧ σ 7 = vi l.length ∧ σ 6 = .slice a l.length ca ∧ σ 3 = vi 0 ∧ orI l = orI (l.drop i)) l.length ?_ ?_
 ·refine ⟨rfl, rfl, 0, by omega, ?_, ?_, ?_, ?_, by simp⟩
  ·simp only [↓reduceIte, go_sem, Nat.reduceLT, Nat.reduceEqDiff, Nat.reduceSub]; rfl
  ·simp only [↓reduceIte, go_sem, Nat.reduceLT, Nat.reduceEqDiff, Nat.reduceSub]
  ·simp only [↓reduceIte, go_sem, Nat.reduceLT, Nat.reduceEqDiff, Nat.reduceSub]
  ·simp only [↓reduceIte, go_sem, Nat.reduceLT, Nat.reduceEqDiff, Nat.reduceSub]
 ·rintro m σ ds v ⟨rfl, hv, i, him, h8, h7, h6, h3, hinv⟩
  rw [hv]
  repeat refine c_r ?_
  refine rg2 h8 h7 ?_
  repeat refine c_r ?_
  refine wc0 ?_ ?_
  ·intro hlt
   simp only [decide_eq_true_eq] at hlt
   have hsa : a.isSome = true := some_of_cellO (hla i (by omega))
   have hd := orI_drop (l := l) (i := i) (by omega)
   repeat refine c_r ?_
   refine rq ?_; intro gd K hgd hK; simp (disch := first | omega | assumption | rfl) only [↓reduceIte, go_sem, Nat.reduceLT, Nat.reduceEqDiff, Nat.reduceSub, h8, h6, hla, List.getElem_map]; refine hK _ _ ?_; clear hK hgd; clear K gd
   repeat refine c_r ?_
   refine rg1 h3 ?_
   repeat refine c_r ?_
   refine wc0 ?_ ?_
   ·intro h
    simp only [Bool.not_eq_true', decide_eq_false_iff_not] at h
    repeat (first | refine c_r ?_ | refine rg0 ?_)
    refine rt0 Tryz.ntmps110 ?_
    exact ⟨by rw [hinv, hd, if_neg h], rfl⟩
   ·intro h
    simp only [Bool.not_eq_false', decide_eq_true_eq] at h
    repeat refine c_r ?_
    refine rg1 h8 ?_
    repeat refine c_r ?_
    exact ⟨m - 1, by omega, rfl, rfl, i + 1, by omega, by simp only [↓reduceIte, go_sem, Nat.reduceLT, Nat.reduceEqDiff, Nat.reduceSub]; push_cast; rfl, (vq1 h7), (vq1 h6), (vq1 h3), by rw [hinv, hd, if_pos h]⟩
  ·intro hge
   simp only [decide_eq_false_iff_not] at hge
   repeat (first | refine c_r ?_ | (refine W_reg (by rfl) ?_; intro gd K hgd hK; simp (disch := first | omega | assumption | rfl) only [↓reduceIte, go_sem, Nat.reduceLT, Nat.reduceEqDiff, Nat.reduceSub, h3]; refine hK _ _ ?_; clear hK hgd; clear K gd))
   refine rt0 Tryz.ntmps110 ?_
   refine ⟨?_, rfl⟩
   rw [hinv, List.drop_of_length_le (by omega)]; rfl

theorem cmpR_nilI (a b : Nm) (h : a = [] ∨ b = []) : cmpR a b = cmpI a.length b.length := by
 rw [cmpR_nil a b h]; unfold sgn cmpI
 by_cases h1 : (a.length : Int) < b.length
 ·rw [if_pos (by omega), if_pos h1]
 ·by_cases h2 : (b.length : Int) < a.length
  ·rw [if_neg (by omega), if_pos (by omega), if_neg h1, if_pos h2]
  ·rw [if_neg (by omega), if_neg (by omega), if_neg h1, if_neg h2]
end Go.Proofs.YtopbbjdembnfdaaGreat

namespace Go.Proofs.YtopbbjdembnfdaaGreat
open Go
set_option maxRecDepth 10000

theorem NCompare_ok (w : World) (a b : Value) (xs ys : Nm) (ha : Row w a (xs.map vs)) (hb : Row w b (ys.map vs)) (hx : LB xs) (hy : LB ys) (hxl : xs.length ≤ 9000000000000000000) (hyl : ys.length ≤ 9000000000000000000) :
  Fn Tryz.prog 54 #[a, b] w (fun v w' => v = vi (cmpN (foldN xs) (foldN ys)) ∧ Ext w w') := by
 obtain ⟨a, ca, rfl, hca, hla⟩ := ha
 obtain ⟨b, cb, rfl, hcb, hlb⟩ := hb
 simp only [List.length_map] at *
 obtain ⟨k, hk⟩ : ∃ k, min xs.length ys.length = k := ⟨_, rfl⟩
 have hmin : min (xs.length : Int) (ys.length : Int) = (k : Int) := by omega
 refine enter Tryz.func54 Tryz.ntmps54 rfl rfl ?_
 repeat refine c_r ?_
 refine rg0 ?_
 repeat refine c_r ?_
 refine rq ?_; intro gd K hgd hK
 try simp (disch := first | omega | assumption | rfl) only [↓reduceIte, go_sem, Nat.reduceLT, Nat.reduceEqDiff, Nat.reduceSub]
 refine op_min (k := .i64) (a := xs.length) (b := ys.length) (vq0) (vq0) ?_
 rw [hmin]
 try simp (disch := first | omega | assumption | rfl) only [↓reduceIte, go_sem, Nat.reduceLT, Nat.reduceEqDiff, Nat.reduceSub]
 refine hK _ _ ?_; clear hK hgd; clear K; try clear gd
 repeat refine c_r ?_
 refine W_loop (fun m σ ds v => ds = [] ∧ ∃ i : Nat, i + m = k ∧ σ 12 = vi i ∧ σ 11 = vi k ∧ σ 0 = .slice a xs.length ca ∧ σ 1 = .slice b ys.length cb ∧ Ext w v ∧ cmpN (foldN xs) (foldN ys) = cmpR ((foldN xs).reverse.drop i) ((foldN ys).reverse.drop i)) k ?_ ?_
 ·refine ⟨rfl, 0, by omega, ?_, ?_, ?_, ?_, Keep.refl _ _, by simp [cmpN]⟩
  ·simp only [↓reduceIte, go_sem, Nat.reduceLT, Nat.reduceEqDiff, Nat.reduceSub]; rfl
  ·simp only [↓reduceIte, go_sem, Nat.reduceLT, Nat.reduceEqDiff, Nat.reduceSub]
  ·simp only [↓reduceIte, go_sem, Nat.reduceLT, Nat.reduceEqDiff, Nat.reduceSub]
  ·simp only [↓reduceIte, go_sem, Nat.reduceLT, Nat.reduceEqDiff, Nat.reduceSub]
 ·rintro m σ ds v ⟨rfl, i, him, h12, h11, h0, h1, hE, hinv⟩
  repeat refine c_r ?_
  refine rq ?_; intro gd K hgd hK; simp (disch := first | omega | assumption | rfl) only [↓reduceIte, go_sem, Nat.reduceLT, Nat.reduceEqDiff, Nat.reduceSub, h12, h11]; refine hK _ _ ?_; clear hK hgd; clear K gd
  repeat refine c_r ?_
  refine wc0 ?_ ?_
  ·intro hlt
   simp only [decide_eq_true_eq] at hlt
   have hsa : a.isSome = true := some_of_cellO (hla (xs.length - 1 - i) (by omega))
   have hsb : b.isSome = true := some_of_cellO (hlb (ys.length - 1 - i) (by omega))
   have e1 : ((xs.length : Int) - 1 - i).toNat = xs.length - 1 - i := by omega
   have e2 : ((ys.length : Int) - 1 - i).toNat = ys.length - 1 - i := by omega
   repeat refine c_r ?_
   refine rg1 h12 ?_
   repeat refine c_r ?_
   refine W_drw (fun _ => false) [(0, true), (1, true), (2, true), (3, true), (4, true), (5, true), (6, true), (7, true), (8, true), (9, true), (10, true), (11, true), (12, true), (13, true), (14, true), (15, true), (16, false), (17, true)] NoS mixed (by kernel_rfl) ?_; intro gd K x hgd hx hxe hK; clear hxe
   have hla' := fun j h => cellO_ext (hE.trans ‹Keep NoS v x›) (hla j h)
   have hlb' := fun j h => cellO_ext (hE.trans ‹Keep NoS v x›) (hlb j h)
   simp (disch := first | omega | assumption | rfl) only [↓reduceIte, go_sem, Nat.reduceLT, Nat.reduceEqDiff, Nat.reduceSub, h12, h0, h1, e1, e2, hla', hlb', List.getElem_map]
   refine Fn.mono (LCompare_ok _ _ _ (LB.get ‹LB xs› _) (LB.get ‹LB ys› _)) ?_
   rintro _ x1 ⟨rfl, hx1⟩
   refine ⟨.inr hx1, ?_⟩
   simp (disch := first | omega | assumption | rfl) only [↓reduceIte, go_sem, Nat.reduceLT, Nat.reduceEqDiff, Nat.reduceSub]
   refine hK _ _ ?_; clear hK hgd; clear K; try clear gd
   have hst := cmpR_step (a := (foldN xs).reverse) (b := (foldN ys).reverse) (i := i) (by simp [foldN_len]; omega) (by simp [foldN_len]; omega)
   have g1 : (foldN xs).reverse[i]'(by simp [foldN_len]; omega) = foldL (xs[xs.length - 1 - i]'(by omega)) := by
    rw [List.getElem_reverse]; simp [foldN]
   have g2 : (foldN ys).reverse[i]'(by simp [foldN_len]; omega) = foldL (ys[ys.length - 1 - i]'(by omega)) := by
    rw [List.getElem_reverse]; simp [foldN]
   rw [g1, g2] at hst
   repeat refine c_r ?_
   refine rg0 ?_
   repeat refine c_r ?_
   refine wc0 ?_ ?_
   ·intro hne
    simp only [Bool.not_eq_true', decide_eq_false_iff_not] at hne
    repeat (first | refine c_r ?_ | refine rg0 ?_)
    refine rt0 Tryz.ntmps54 ?_
    refine ⟨by rw [hinv, hst, if_neg hne], (hE.trans ‹Keep NoS v x›).trans hx1⟩
   ·intro heq
    simp only [Bool.not_eq_false', decide_eq_true_eq] at heq
    repeat refine c_r ?_
    refine rg1 h12 ?_
    repeat refine c_r ?_
    exact ⟨m - 1, by omega, rfl, i + 1, by omega, by simp only [↓reduceIte, go_sem, Nat.reduceLT, Nat.reduceEqDiff, Nat.reduceSub]; push_cast; rfl, by simp only [↓reduceIte, go_sem, Nat.reduceLT, Nat.reduceEqDiff, Nat.reduceSub, h11], (vq1 h0), (vq1 h1), (hE.trans ‹Keep NoS v x›).trans hx1, by rw [hinv, hst, if_pos heq]⟩
  ·intro hge
   simp only [decide_eq_false_iff_not] at hge
   repeat refine c_r ?_
   refine rq ?_; intro gd K hgd hK
   try simp (disch := first | omega | assumption | rfl) only [↓reduceIte, go_sem, Nat.reduceLT, Nat.reduceEqDiff, Nat.reduceSub, h0, h1]
   refine Fn.mono (N_int.Compare_ok _ _ _) ?_
   rintro _ w2 ⟨rfl, rfl⟩
   try simp (disch := first | omega | assumption | rfl) only [↓reduceIte, go_sem, Nat.reduceLT, Nat.reduceEqDiff, Nat.reduceSub]
   refine hK _ _ ?_; clear hK hgd; clear K; try clear gd
   repeat refine c_r ?_
   refine rt0 Tryz.ntmps54 ?_
   refine ⟨?_, hE⟩
   have l1 : ((foldN xs).reverse.drop i).length = xs.length - i := by simp [foldN_len]
   have l2 : ((foldN ys).reverse.drop i).length = ys.length - i := by simp [foldN_len]
   rw [hinv, cmpR_nilI _ _ (by
    rcases Nat.lt_or_ge i xs.length with h | h
    ·exact .inr (List.length_eq_zero_iff.1 (by omega))
    ·exact .inl (List.length_eq_zero_iff.1 (by omega))), l1, l2]
   unfold cmpI
   by_cases h1' : (xs.length : Int) < ys.length
   ·rw [if_pos h1', if_pos (by omega)]
   ·by_cases h2' : (ys.length : Int) < xs.length
    ·rw [if_neg h1', if_pos h2', if_neg (by omega), if_pos (by omega)]
    ·rw [if_neg h1', if_neg h2', if_neg (by omega), if_neg (by omega)]
end Go.Proofs.YtopbbjdembnfdaaGreat

namespace Go.Proofs.YtopbbjdembnfdaaGreat.C_cn
open Go Go.Proofs.YtopbbjdembnfdaaGreat
set_option maxRecDepth 10000

def RowR {α : Type} (Rl : World → α → Value → Prop) (w : World) (v : Value) (xs : List α) : Prop := ∃ us, Row w v us ∧ us.length = xs.length ∧ ∀ i (h : i < us.length) (h' : i < xs.length), Rl w xs[i] us[i]

theorem CompareFunc_ok {α : Type} {Rl : World → α → Value → Prop} (hR : ∀ w x a v, Ext w x → Rl w a v → Rl x a v) {cf : α → α → Int} {U : α → Prop} {g : FuncId} (hcal : callable Tryz.prog g = true) {w : World}
  (hcall : ∀ A x y u v, Ext w A → U x → U y → Rl A x u → Rl A y v → Fn Tryz.prog g #[u, v] A (fun r B => r = vi (cf x y) ∧ Ext A B)) {a b : Value} {xs ys : List α} (ha : RowR Rl w a xs) (hb : RowR Rl w b ys) (hUx : ∀ x ∈ xs, U x) (hUy : ∀ y ∈ ys, U y) (hxl : xs.length ≤ 1000000000000000) (hyl : ys.length ≤ 1000000000000000) :
  Fn Tryz.prog 218 #[a, b, .func (.func g) #[] #[]] w (fun v w' => v = vi (lexC cf xs ys) ∧ Ext w w') := by
 obtain ⟨us, ⟨a, ca, rfl, hca, hla⟩, hul, hu⟩ := ha
 obtain ⟨vs', ⟨b, cb, rfl, hcb, hlb⟩, hvl, hv⟩ := hb
 refine enter Tryz.func218 Tryz.ntmps218 rfl rfl ?_
 repeat refine c_r ?_
 refine rg0 ?_
 repeat refine c_r ?_
 refine rg0 ?_
 repeat refine c_r ?_
 refine W_loop (fun m σ ds v => ds = [] ∧ ∃ i : Nat, i + m = us.length ∧ i ≤ vs'.length ∧ σ 13 = vi i ∧ σ 12 = vi us.length ∧ σ 11 = .slice a us.length ca ∧ σ 0 = .slice a us.length ca ∧ σ 1 = .slice b vs'.length cb ∧ σ 2 = .func (.func g) #[] #[] ∧ Ext w v ∧ lexC cf xs ys = lexC cf (xs.drop i) (ys.drop i)) us.length ?_ ?_
 ·refine ⟨rfl, 0, by omega, by omega, ?_, ?_, ?_, ?_, ?_, ?_, Keep.refl _ _, by simp⟩
  ·simp only [↓reduceIte, go_sem, Nat.reduceLT, Nat.reduceEqDiff, Nat.reduceSub]; rfl
  ·simp only [↓reduceIte, go_sem, Nat.reduceLT, Nat.reduceEqDiff, Nat.reduceSub]
  ·simp only [↓reduceIte, go_sem, Nat.reduceLT, Nat.reduceEqDiff, Nat.reduceSub]
  ·simp only [↓reduceIte, go_sem, Nat.reduceLT, Nat.reduceEqDiff, Nat.reduceSub]
  ·simp only [↓reduceIte, go_sem, Nat.reduceLT, Nat.reduceEqDiff, Nat.reduceSub]
  ·simp only [↓reduceIte, go_sem, Nat.reduceLT, Nat.reduceEqDiff, Nat.reduceSub]
 ·rintro m σ ds v ⟨rfl, i, him, hiv, h13, h12, h11, h0, h1, h2, hE, hinv⟩
  repeat refine c_r ?_
  refine rg2 h13 h12 ?_
  repeat refine c_r ?_
  refine wc0 ?_ ?_
  ·intro hlt
   simp only [decide_eq_true_eq] at hlt
   have hsa : a.isSome = true := some_of_cellO (hla i (by omega))
   have hla' := fun j h => cellO_ext hE (hla j h)
   have hlb' := fun j h => cellO_ext hE (hlb j h)
   repeat refine c_r ?_
   refine rq ?_; intro gd K hgd hK; simp (disch := first | omega | assumption | rfl) only [↓reduceIte, go_sem, Nat.reduceLT, Nat.reduceEqDiff, Nat.reduceSub, h13, h11, hla']; refine hK _ _ ?_; clear hK hgd; clear K gd
   repeat refine c_r ?_
   refine rg1 h1 ?_
   repeat refine c_r ?_
   refine wc0 ?_ ?_
   ·intro hge
    simp only [decide_eq_true_eq] at hge
    repeat (first | refine c_r ?_ | refine rg0 ?_)
    refine rt0 Tryz.ntmps218 ?_
    refine ⟨?_, hE⟩
    have e : ys.drop i = [] := List.drop_of_length_le (by omega)
    rw [hinv, lexC_nil (.inr e), e]
    have l1 : (xs.drop i).length = xs.length - i := by simp
    unfold cmpI
    rw [l1, List.length_nil, if_neg (by omega), if_pos (by omega)]
   ·intro hlt2
    simp only [decide_eq_false_iff_not] at hlt2
    have hsb : b.isSome = true := some_of_cellO (hlb i (by omega))
    have hst := lexC_drop (cf := cf) (a := xs) (b := ys) (i := i) (by omega) (by omega)
    repeat refine c_r ?_
    refine rg2 h1 hlb' ?_
    repeat refine c_r ?_
    refine rq ?_; intro gd K hgd hK
    try simp (disch := first | omega | assumption | rfl) only [↓reduceIte, go_sem, Nat.reduceLT, Nat.reduceEqDiff, Nat.reduceSub, h2]
    refine call_of hcal (Fn.mono (hcall v xs[i] ys[i] _ _ hE (hUx _ (List.getElem_mem _)) (hUy _ (List.getElem_mem _)) (hR _ _ _ _ hE (hu i (by omega) (by omega))) (hR _ _ _ _ hE (hv i (by omega) (by omega)))) ?_)
    rintro _ w1 ⟨rfl, hE1⟩
    try simp (disch := first | omega | assumption | rfl) only [↓reduceIte, go_sem, Nat.reduceLT, Nat.reduceEqDiff, Nat.reduceSub]
    refine hK _ _ ?_; clear hK hgd; clear K; try clear gd
    repeat refine c_r ?_
    refine rg0 ?_
    repeat refine c_r ?_
    refine wc0 ?_ ?_
    ·intro hne
     simp only [Bool.not_eq_true', decide_eq_false_iff_not] at hne
     repeat (first | refine c_r ?_ | refine rg0 ?_)
     refine rt0 Tryz.ntmps218 ?_
     exact ⟨by rw [hinv, hst, if_neg hne], hE.trans hE1⟩
    ·intro heq
     simp only [Bool.not_eq_false', decide_eq_true_eq] at heq
     repeat refine c_r ?_
     refine rg1 h13 ?_
     repeat refine c_r ?_
     exact ⟨m - 1, by omega, rfl, i + 1, by omega, by omega, by simp only [↓reduceIte, go_sem, Nat.reduceLT, Nat.reduceEqDiff, Nat.reduceSub]; push_cast; rfl, (vq1 h12), by simp only [↓reduceIte, go_sem, Nat.reduceLT, Nat.reduceEqDiff, Nat.reduceSub, h11], (vq1 h0), (vq1 h1), (vq1 h2), hE.trans hE1, by rw [hinv, hst, if_pos heq]⟩
  ·intro hge
   simp only [decide_eq_false_iff_not] at hge
   have e : xs.drop i = [] := List.drop_of_length_le (by omega)
   have l2 : (ys.drop i).length = ys.length - i := by simp
   have hval : lexC cf xs ys = cmpI 0 (ys.length - i : Nat) := by rw [hinv, lexC_nil (.inl e), e, l2]; rfl
   repeat refine c_r ?_
   refine rg2 h0 h1 ?_
   repeat refine c_r ?_
   refine wc0 ?_ ?_
   ·intro h
    simp only [decide_eq_true_eq] at h
    repeat (first | refine c_r ?_ | refine rg0 ?_)
    refine rt0 Tryz.ntmps218 ?_
    exact ⟨by rw [hval, cmpI, if_pos (by omega)], hE⟩
   ·intro h
    simp only [decide_eq_false_iff_not] at h
    repeat (first | refine c_r ?_ | refine rg0 ?_)
    refine rt0 Tryz.ntmps218 ?_
    exact ⟨by rw [hval, cmpI, if_neg (by omega), if_neg (by omega)], hE⟩
end Go.Proofs.YtopbbjdembnfdaaGreat.C_cn

namespace Go.Proofs.YtopbbjdembnfdaaGreat.C_cu
open Go Go.Proofs.YtopbbjdembnfdaaGreat
set_option maxRecDepth 10000

def RowR {α : Type} (Rl : World → α → Value → Prop) (w : World) (v : Value) (xs : List α) : Prop := ∃ us, Row w v us ∧ us.length = xs.length ∧ ∀ i (h : i < us.length) (h' : i < xs.length), Rl w xs[i] us[i]

theorem CompareFunc_ok {α : Type} {Rl : World → α → Value → Prop} (hR : ∀ w x a v, Ext w x → Rl w a v → Rl x a v) {cf : α → α → Int} {U : α → Prop} {g : FuncId} (hcal : callable Tryz.prog g = true) {w : World}
  (hcall : ∀ A x y u v, Ext w A → U x → U y → Rl A x u → Rl A y v → Fn Tryz.prog g #[u, v] A (fun r B => r = vi (cf x y) ∧ Ext A B)) {a b : Value} {xs ys : List α} (ha : RowR Rl w a xs) (hb : RowR Rl w b ys) (hUx : ∀ x ∈ xs, U x) (hUy : ∀ y ∈ ys, U y) (hxl : xs.length ≤ 1000000000000000) (hyl : ys.length ≤ 1000000000000000) :
  Fn Tryz.prog 219 #[a, b, .func (.func g) #[] #[]] w (fun v w' => v = vi (lexC cf xs ys) ∧ Ext w w') := by
 obtain ⟨us, ⟨a, ca, rfl, hca, hla⟩, hul, hu⟩ := ha
 obtain ⟨vs', ⟨b, cb, rfl, hcb, hlb⟩, hvl, hv⟩ := hb
 refine enter Tryz.func219 Tryz.ntmps219 rfl rfl ?_
 repeat refine c_r ?_
 refine rg0 ?_
 repeat refine c_r ?_
 refine rg0 ?_
 repeat refine c_r ?_
 refine W_loop (fun m σ ds v => ds = [] ∧ ∃ i : Nat, i + m = us.length ∧ i ≤ vs'.length ∧ σ 13 = vi i ∧ σ 12 = vi us.length ∧ σ 11 = .slice a us.length ca ∧ σ 0 = .slice a us.length ca ∧ σ 1 = .slice b vs'.length cb ∧ σ 2 = .func (.func g) #[] #[] ∧ Ext w v ∧ lexC cf xs ys = lexC cf (xs.drop i) (ys.drop i)) us.length ?_ ?_
 ·refine ⟨rfl, 0, by omega, by omega, ?_, ?_, ?_, ?_, ?_, ?_, Keep.refl _ _, by simp⟩
  ·simp only [↓reduceIte, go_sem, Nat.reduceLT, Nat.reduceEqDiff, Nat.reduceSub]; rfl
  ·simp only [↓reduceIte, go_sem, Nat.reduceLT, Nat.reduceEqDiff, Nat.reduceSub]
  ·simp only [↓reduceIte, go_sem, Nat.reduceLT, Nat.reduceEqDiff, Nat.reduceSub]
  ·simp only [↓reduceIte, go_sem, Nat.reduceLT, Nat.reduceEqDiff, Nat.reduceSub]
  ·simp only [↓reduceIte, go_sem, Nat.reduceLT, Nat.reduceEqDiff, Nat.reduceSub]
  ·simp only [↓reduceIte, go_sem, Nat.reduceLT, Nat.reduceEqDiff, Nat.reduceSub]
 ·rintro m σ ds v ⟨rfl, i, him, hiv, h13, h12, h11, h0, h1, h2, hE, hinv⟩
  repeat refine c_r ?_
  refine rg2 h13 h12 ?_
  repeat refine c_r ?_
  refine wc0 ?_ ?_
  ·intro hlt
   simp only [decide_eq_true_eq] at hlt
   have hsa : a.isSome = true := some_of_cellO (hla i (by omega))
   have hla' := fun j h => cellO_ext hE (hla j h)
   have hlb' := fun j h => cellO_ext hE (hlb j h)
   repeat refine c_r ?_
   refine rq ?_; intro gd K hgd hK; simp (disch := first | omega | assumption | rfl) only [↓reduceIte, go_sem, Nat.reduceLT, Nat.reduceEqDiff, Nat.reduceSub, h13, h11, hla']; refine hK _ _ ?_; clear hK hgd; clear K gd
   repeat refine c_r ?_
   refine rg1 h1 ?_
   repeat refine c_r ?_
   refine wc0 ?_ ?_
   ·intro hge
    simp only [decide_eq_true_eq] at hge
    repeat (first | refine c_r ?_ | refine rg0 ?_)
    refine rt0 Tryz.ntmps219 ?_
    refine ⟨?_, hE⟩
    have e : ys.drop i = [] := List.drop_of_length_le (by omega)
    rw [hinv, lexC_nil (.inr e), e]
    have l1 : (xs.drop i).length = xs.length - i := by simp
    unfold cmpI
    rw [l1, List.length_nil, if_neg (by omega), if_pos (by omega)]
   ·intro hlt2
    simp only [decide_eq_false_iff_not] at hlt2
    have hsb : b.isSome = true := some_of_cellO (hlb i (by omega))
    have hst := lexC_drop (cf := cf) (a := xs) (b := ys) (i := i) (by omega) (by omega)
    repeat refine c_r ?_
    refine rg2 h1 hlb' ?_
    repeat refine c_r ?_
    refine rq ?_; intro gd K hgd hK
    try simp (disch := first | omega | assumption | rfl) only [↓reduceIte, go_sem, Nat.reduceLT, Nat.reduceEqDiff, Nat.reduceSub, h2]
    refine call_of hcal (Fn.mono (hcall v xs[i] ys[i] _ _ hE (hUx _ (List.getElem_mem _)) (hUy _ (List.getElem_mem _)) (hR _ _ _ _ hE (hu i (by omega) (by omega))) (hR _ _ _ _ hE (hv i (by omega) (by omega)))) ?_)
    rintro _ w1 ⟨rfl, hE1⟩
    try simp (disch := first | omega | assumption | rfl) only [↓reduceIte, go_sem, Nat.reduceLT, Nat.reduceEqDiff, Nat.reduceSub]
    refine hK _ _ ?_; clear hK hgd; clear K; try clear gd
    repeat refine c_r ?_
    refine rg0 ?_
    repeat refine c_r ?_
    refine wc0 ?_ ?_
    ·intro hne
     simp only [Bool.not_eq_true', decide_eq_false_iff_not] at hne
     repeat (first | refine c_r ?_ | refine rg0 ?_)
     refine rt0 Tryz.ntmps219 ?_
     exact ⟨by rw [hinv, hst, if_neg hne], hE.trans hE1⟩
    ·intro heq
     simp only [Bool.not_eq_false', decide_eq_true_eq] at heq
     repeat refine c_r ?_
     refine rg1 h13 ?_
     repeat refine c_r ?_
     exact ⟨m - 1, by omega, rfl, i + 1, by omega, by omega, by simp only [↓reduceIte, go_sem, Nat.reduceLT, Nat.reduceEqDiff, Nat.reduceSub]; push_cast; rfl, (vq1 h12), by simp only [↓reduceIte, go_sem, Nat.reduceLT, Nat.reduceEqDiff, Nat.reduceSub, h11], (vq1 h0), (vq1 h1), (vq1 h2), hE.trans hE1, by rw [hinv, hst, if_pos heq]⟩
  ·intro hge
   simp only [decide_eq_false_iff_not] at hge
   have e : xs.drop i = [] := List.drop_of_length_le (by omega)
   have l2 : (ys.drop i).length = ys.length - i := by simp
   have hval : lexC cf xs ys = cmpI 0 (ys.length - i : Nat) := by rw [hinv, lexC_nil (.inl e), e, l2]; rfl
   repeat refine c_r ?_
   refine rg2 h0 h1 ?_
   repeat refine c_r ?_
   refine wc0 ?_ ?_
   ·intro h
    simp only [decide_eq_true_eq] at h
    repeat (first | refine c_r ?_ | refine rg0 ?_)
    refine rt0 Tryz.ntmps219 ?_
    exact ⟨by rw [hval, cmpI, if_pos (by omega)], hE⟩
   ·intro h
    simp only [decide_eq_false_iff_not] at h
    repeat (first | refine c_r ?_ | refine rg0 ?_)
    refine rt0 Tryz.ntmps219 ?_
    exact ⟨by rw [hval, cmpI, if_neg (by omega), if_neg (by omega)], hE⟩
end Go.Proofs.YtopbbjdembnfdaaGreat.C_cu

namespace Go.Proofs.YtopbbjdembnfdaaGreat.C_ct
open Go Go.Proofs.YtopbbjdembnfdaaGreat
set_option maxRecDepth 10000

def RowR {α : Type} (Rl : World → α → Value → Prop) (w : World) (v : Value) (xs : List α) : Prop := ∃ us, Row w v us ∧ us.length = xs.length ∧ ∀ i (h : i < us.length) (h' : i < xs.length), Rl w xs[i] us[i]

theorem CompareFunc_ok {α : Type} {Rl : World → α → Value → Prop} (hR : ∀ w x a v, Ext w x → Rl w a v → Rl x a v) {cf : α → α → Int} {U : α → Prop} {g : FuncId} (hcal : callable Tryz.prog g = true) {w : World}
  (hcall : ∀ A x y u v, Ext w A → U x → U y → Rl A x u → Rl A y v → Fn Tryz.prog g #[u, v] A (fun r B => r = vi (cf x y) ∧ Ext A B)) {a b : Value} {xs ys : List α} (ha : RowR Rl w a xs) (hb : RowR Rl w b ys) (hUx : ∀ x ∈ xs, U x) (hUy : ∀ y ∈ ys, U y) (hxl : xs.length ≤ 1000000000000000) (hyl : ys.length ≤ 1000000000000000) :
  Fn Tryz.prog 221 #[a, b, .func (.func g) #[] #[]] w (fun v w' => v = vi (lexC cf xs ys) ∧ Ext w w') := by
 obtain ⟨us, ⟨a, ca, rfl, hca, hla⟩, hul, hu⟩ := ha
 obtain ⟨vs', ⟨b, cb, rfl, hcb, hlb⟩, hvl, hv⟩ := hb
 refine enter Tryz.func221 Tryz.ntmps221 rfl rfl ?_
 repeat refine c_r ?_
 refine rg0 ?_
 repeat refine c_r ?_
 refine rg0 ?_
 repeat refine c_r ?_
 refine W_loop (fun m σ ds v => ds = [] ∧ ∃ i : Nat, i + m = us.length ∧ i ≤ vs'.length ∧ σ 13 = vi i ∧ σ 12 = vi us.length ∧ σ 11 = .slice a us.length ca ∧ σ 0 = .slice a us.length ca ∧ σ 1 = .slice b vs'.length cb ∧ σ 2 = .func (.func g) #[] #[] ∧ Ext w v ∧ lexC cf xs ys = lexC cf (xs.drop i) (ys.drop i)) us.length ?_ ?_
 ·refine ⟨rfl, 0, by omega, by omega, ?_, ?_, ?_, ?_, ?_, ?_, Keep.refl _ _, by simp⟩
  ·simp only [↓reduceIte, go_sem, Nat.reduceLT, Nat.reduceEqDiff, Nat.reduceSub]; rfl
  ·simp only [↓reduceIte, go_sem, Nat.reduceLT, Nat.reduceEqDiff, Nat.reduceSub]
  ·simp only [↓reduceIte, go_sem, Nat.reduceLT, Nat.reduceEqDiff, Nat.reduceSub]
  ·simp only [↓reduceIte, go_sem, Nat.reduceLT, Nat.reduceEqDiff, Nat.reduceSub]
  ·simp only [↓reduceIte, go_sem, Nat.reduceLT, Nat.reduceEqDiff, Nat.reduceSub]
  ·simp only [↓reduceIte, go_sem, Nat.reduceLT, Nat.reduceEqDiff, Nat.reduceSub]
 ·rintro m σ ds v ⟨rfl, i, him, hiv, h13, h12, h11, h0, h1, h2, hE, hinv⟩
  repeat refine c_r ?_
  refine rg2 h13 h12 ?_
  repeat refine c_r ?_
  refine wc0 ?_ ?_
  ·intro hlt
   simp only [decide_eq_true_eq] at hlt
   have hsa : a.isSome = true := some_of_cellO (hla i (by omega))
   have hla' := fun j h => cellO_ext hE (hla j h)
   have hlb' := fun j h => cellO_ext hE (hlb j h)
   repeat refine c_r ?_
   refine rq ?_; intro gd K hgd hK; simp (disch := first | omega | assumption | rfl) only [↓reduceIte, go_sem, Nat.reduceLT, Nat.reduceEqDiff, Nat.reduceSub, h13, h11, hla']; refine hK _ _ ?_; clear hK hgd; clear K gd
   repeat refine c_r ?_
   refine rg1 h1 ?_
   repeat refine c_r ?_
   refine wc0 ?_ ?_
   ·intro hge
    simp only [decide_eq_true_eq] at hge
    repeat (first | refine c_r ?_ | refine rg0 ?_)
    refine rt0 Tryz.ntmps221 ?_
    refine ⟨?_, hE⟩
    have e : ys.drop i = [] := List.drop_of_length_le (by omega)
    rw [hinv, lexC_nil (.inr e), e]
    have l1 : (xs.drop i).length = xs.length - i := by simp
    unfold cmpI
    rw [l1, List.length_nil, if_neg (by omega), if_pos (by omega)]
   ·intro hlt2
    simp only [decide_eq_false_iff_not] at hlt2
    have hsb : b.isSome = true := some_of_cellO (hlb i (by omega))
    have hst := lexC_drop (cf := cf) (a := xs) (b := ys) (i := i) (by omega) (by omega)
    repeat refine c_r ?_
    refine rg2 h1 hlb' ?_
    repeat refine c_r ?_
    refine rq ?_; intro gd K hgd hK
    try simp (disch := first | omega | assumption | rfl) only [↓reduceIte, go_sem, Nat.reduceLT, Nat.reduceEqDiff, Nat.reduceSub, h2]
    refine call_of hcal (Fn.mono (hcall v xs[i] ys[i] _ _ hE (hUx _ (List.getElem_mem _)) (hUy _ (List.getElem_mem _)) (hR _ _ _ _ hE (hu i (by omega) (by omega))) (hR _ _ _ _ hE (hv i (by omega) (by omega)))) ?_)
    rintro _ w1 ⟨rfl, hE1⟩
    try simp (disch := first | omega | assumption | rfl) only [↓reduceIte, go_sem, Nat.reduceLT, Nat.reduceEqDiff, Nat.reduceSub]
    refine hK _ _ ?_; clear hK hgd; clear K; try clear gd
    repeat refine c_r ?_
    refine rg0 ?_
    repeat refine c_r ?_
    refine wc0 ?_ ?_
    ·intro hne
     simp only [Bool.not_eq_true', decide_eq_false_iff_not] at hne
     repeat (first | refine c_r ?_ | refine rg0 ?_)
     refine rt0 Tryz.ntmps221 ?_
     exact ⟨by rw [hinv, hst, if_neg hne], hE.trans hE1⟩
    ·intro heq
     simp only [Bool.not_eq_false', decide_eq_true_eq] at heq
     repeat refine c_r ?_
     refine rg1 h13 ?_
     repeat refine c_r ?_
     exact ⟨m - 1, by omega, rfl, i + 1, by omega, by omega, by simp only [↓reduceIte, go_sem, Nat.reduceLT, Nat.reduceEqDiff, Nat.reduceSub]; push_cast; rfl, (vq1 h12), by simp only [↓reduceIte, go_sem, Nat.reduceLT, Nat.reduceEqDiff, Nat.reduceSub, h11], (vq1 h0), (vq1 h1), (vq1 h2), hE.trans hE1, by rw [hinv, hst, if_pos heq]⟩
  ·intro hge
   simp only [decide_eq_false_iff_not] at hge
   have e : xs.drop i = [] := List.drop_of_length_le (by omega)
   have l2 : (ys.drop i).length = ys.length - i := by simp
   have hval : lexC cf xs ys = cmpI 0 (ys.length - i : Nat) := by rw [hinv, lexC_nil (.inl e), e, l2]; rfl
   repeat refine c_r ?_
   refine rg2 h0 h1 ?_
   repeat refine c_r ?_
   refine wc0 ?_ ?_
   ·intro h
    simp only [decide_eq_true_eq] at h
    repeat (first | refine c_r ?_ | refine rg0 ?_)
    refine rt0 Tryz.ntmps221 ?_
    exact ⟨by rw [hval, cmpI, if_pos (by omega)], hE⟩
   ·intro h
    simp only [decide_eq_false_iff_not] at h
    repeat (first | refine c_r ?_ | refine rg0 ?_)
    refine rt0 Tryz.ntmps221 ?_
    exact ⟨by rw [hval, cmpI, if_neg (by omega), if_neg (by omega)], hE⟩
end Go.Proofs.YtopbbjdembnfdaaGreat.C_ct

namespace Go.Proofs.YtopbbjdembnfdaaGreat.N_uint32
open Go Go.Proofs.YtopbbjdembnfdaaGreat
set_option maxRecDepth 10000

theorem isNaN_ok (w : World) (a : Int) : Fn Tryz.prog 220 #[.int .u32 a] w (fun v w' => v = .bool false ∧ w' = w) := by
 refine enter Tryz.func220 Tryz.ntmps220 rfl rfl ?_
 repeat (first | refine c_r ?_ | (refine W_reg (by rfl) ?_; intro gd K hgd hK; simp (disch := first | omega | assumption | rfl) only [↓reduceIte, go_sem, Nat.reduceLT, Nat.reduceEqDiff, Nat.reduceSub, decide_true]; refine hK _ _ ?_; clear hK hgd; clear K gd))
 refine rt0 Tryz.ntmps220 ?_
 exact ⟨rfl, rfl⟩

theorem Compare_ok (w : World) (a b : Int) : Fn Tryz.prog 189 #[.int .u32 a, .int .u32 b] w (fun v w' => v = vi (cmpI a b) ∧ w' = w) := by
 refine enter Tryz.func189 Tryz.ntmps189 rfl rfl ?_
 repeat refine c_r ?_
 refine rg0 ?_
 repeat refine c_r ?_
 refine rq ?_; intro gd K hgd hK
 try simp (disch := first | omega | assumption | rfl) only [↓reduceIte, go_sem, Nat.reduceLT, Nat.reduceEqDiff, Nat.reduceSub]
 refine Fn.mono (isNaN_ok _ _) ?_
 rintro _ _ ⟨rfl, rfl⟩
 try simp (disch := first | omega | assumption | rfl) only [↓reduceIte, go_sem, Nat.reduceLT, Nat.reduceEqDiff, Nat.reduceSub]
 refine hK _ _ ?_; clear hK hgd; clear K; try clear gd
 repeat refine c_r ?_
 refine rq ?_; intro gd K hgd hK
 try simp (disch := first | omega | assumption | rfl) only [↓reduceIte, go_sem, Nat.reduceLT, Nat.reduceEqDiff, Nat.reduceSub]
 refine Fn.mono (isNaN_ok _ _) ?_
 rintro _ _ ⟨rfl, rfl⟩
 try simp (disch := first | omega | assumption | rfl) only [↓reduceIte, go_sem, Nat.reduceLT, Nat.reduceEqDiff, Nat.reduceSub]
 refine hK _ _ ?_; clear hK hgd; clear K; try clear gd
 repeat refine c_r ?_
 refine rg0 ?_
 repeat refine c_r ?_
 refine wc0 ?_ ?_
 ·intro h; cases h
 intro _
 repeat refine c_r ?_
 refine rg0 ?_
 repeat refine c_r ?_
 refine wc0 ?_ ?_
 ·intro h; cases h
 intro _
 repeat refine c_r ?_
 refine rg0 ?_
 repeat refine c_r ?_
 refine wc0 ?_ ?_
 ·intro h
  simp only [decide_eq_true_eq] at h
  repeat (first | refine c_r ?_ | refine rg0 ?_)
  refine rt0 Tryz.ntmps189 ?_
  exact ⟨by rw [cmpI, if_pos h], rfl⟩
 intro h
 simp only [decide_eq_false_iff_not] at h
 repeat (first | refine c_r ?_ | refine rg0 ?_)
 refine wc0 ?_ ?_
 ·intro h2
  simp only [decide_eq_true_eq] at h2
  repeat (first | refine c_r ?_ | refine rg0 ?_)
  refine rt0 Tryz.ntmps189 ?_
  exact ⟨by rw [cmpI, if_neg h, if_pos h2], rfl⟩
 intro h2
 simp only [decide_eq_false_iff_not] at h2
 repeat (first | refine c_r ?_ | refine rg0 ?_)
 refine rt0 Tryz.ntmps189 ?_
 exact ⟨by rw [cmpI, if_neg h, if_neg h2], rfl⟩
end Go.Proofs.YtopbbjdembnfdaaGreat.N_uint32

namespace Go.Proofs.YtopbbjdembnfdaaGreat
open Go
set_option maxRecDepth 10000

theorem loadBytes_run {P : Program} {w : World} : ∀ (l : List UInt8) (a : Addr) (acc : ByteArray), (∀ j (h : j < l.length), w.cell? (a.add j) = some (byteV l[j])) → (Extern.Bytes.loadBytes a l.length acc).run P w = .ok ⟨acc.data ++ l.toArray⟩ w
 | [], a, acc, _ => by simp [Extern.Bytes.loadBytes, Sem.run]
 | c :: l, a, acc, h => by
  have h0 := h 0 (by simp)
  have ha0 : a.add 0 = a := by simp [Addr.add]
  rw [ha0] at h0
  have ih := loadBytes_run (P := P) l (a.add 1) (acc.push c) (fun j hj => by
   have := h (j + 1) (by simp; omega)
   rw [addr_add_add, Nat.add_comm 1 j]
   simpa using this)
  have e : (load a).run P w = .ok (byteV c) w := by simp [load, Sem.run, h0]
  simp only [List.length_cons, Extern.Bytes.loadBytes, Sem.run_bind, e, Result.andThen_ok]
  show (Extern.Bytes.loadBytes (a.add 1) l.length (acc.push (((c.toNat : Nat) : Int).toNat.toUInt8))).run P w = _
  have e2 : ((c.toNat : Nat) : Int).toNat.toUInt8 = c := by simp
  rw [e2, ih]
  simp [ByteArray.push]

theorem bytesOf_run {P : Program} {w : World} {v : Value} {l : List UInt8} (h : Row w v (l.map byteV)) : (Extern.Bytes.bytesOf v).run P w = .ok ⟨l.toArray⟩ w := by
 obtain ⟨a, c, rfl, _, hl⟩ := h
 simp only [List.length_map] at hl ⊢
 cases a with
 | none =>
  cases l with
  | nil => rfl
  | cons c l => have := hl 0 (by simp); simp [cellO, adr] at this
 | some a =>
  have := loadBytes_run (P := P) (w := w) l a .empty (fun j hj => by
   have := hl j hj
   simpa [cellO, adr] using this)
  simpa [Extern.Bytes.bytesOf] using this

theorem BCompare_ok (w : World) (a b : Value) (xs ys : List UInt8) (ha : Row w a (xs.map byteV)) (hb : Row w b (ys.map byteV)) : Fn Tryz.prog 191 #[a, b] w (fun v w' => v = vi (cmpL xs ys) ∧ w' = w) := by
 have h1 := bytesOf_run (P := Tryz.prog) ha
 have h2 := bytesOf_run (P := Tryz.prog) hb
 refine enter Tryz.func191 Tryz.ntmps191 rfl rfl ?_
 repeat refine c_r ?_
 refine rg0 ?_
 repeat refine c_r ?_
 refine rq ?_; intro gd K hgd hK
 try simp (disch := first | omega | assumption | rfl) only [↓reduceIte, go_sem, Nat.reduceLT, Nat.reduceEqDiff, Nat.reduceSub]
 refine ⟨vi (cmpL xs ys), w, ?_, ?_⟩
 ·rw [run_callFunc_extern Tryz.func222 (by kernel_rfl) (by kernel_rfl) (by kernel_rfl) (e := Extern.BytealgCompare.compare) (by kernel_rfl)]
  have : (Extern.BytealgCompare.compare #[a, b]).run Tryz.prog w = .ok (vi (cmpL xs ys)) w := by
   show (do pure (goInt (Extern.BytealgCompare.cmp (← Extern.Bytes.bytesOf a) (← Extern.Bytes.bytesOf b))) : Sem Value).run Tryz.prog w = _
   simp only [Sem.run_bind, h1, h2, Result.andThen_ok, Sem.run_pure]
   rw [Lib.cmp_eq]
   rfl
  rw [this]; rfl
 try simp (disch := first | omega | assumption | rfl) only [↓reduceIte, go_sem, Nat.reduceLT, Nat.reduceEqDiff, Nat.reduceSub]
 refine hK _ _ ?_; clear hK hgd; clear K; try clear gd
 repeat refine c_r ?_
 refine rt0 Tryz.ntmps191 ?_
 exact ⟨rfl, rfl⟩
end Go.Proofs.YtopbbjdembnfdaaGreat

namespace Go.Proofs.YtopbbjdembnfdaaGreat
open Go

def cellsO (w : World) (p : Option Addr) (k : Nat) : Option (List Value) := p.bind fun a => cellsV w a 0 k

theorem ldA_cells {P : Program} {w : World} {t : TypeId} {p : Option Addr} (hA : tyA P t = true) : ldA P w t p = (cellsO w p (tyS P t)).map fun l => .agg l.toArray := by
 cases p with
 | none => rfl
 | some a => simp [ldA, ldP, ldV, hA, cellsO]

theorem cellsV_block {w : World} {b o : Nat} {cur : Array Value} {e : TypeId} {fr : Nat × Nat} (h : w.heap[b]? = some (.cells cur e fr)) : ∀ (k i : Nat), o + i + k ≤ cur.size →
  cellsV w ⟨b, o, Option.none⟩ i k = some ((cur.toList.drop (o + i)).take k)
 | 0, _, _ => by simp [cellsV]
 | k + 1, i, hk => by
  unfold cellsV
  rw [addr_add, cell_of h, cellsV_block h k (i + 1) (by omega)]
  have hlt : o + i < cur.size := by omega
  have hd := List.drop_eq_getElem_cons (l := cur.toList) (i := o + i) (by simpa using hlt)
  rw [Array.getElem?_eq_getElem hlt, hd, List.take_succ_cons]
  rfl

theorem cellsO_block {w : World} {b o k : Nat} {cur : Array Value} {e : TypeId} {fr : Nat × Nat} (h : w.heap[b]? = some (.cells cur e fr)) (hk : o + k ≤ cur.size) :
  cellsO w (some ⟨b, o, Option.none⟩) k = some ((cur.toList.drop o).take k) := by
 have := cellsV_block (o := o) h k 0 (by omega)
 simpa [cellsO] using this

theorem cellsO_keep {S : Nat → Prop} {w x : World} (hk : Keep S w x) {p : Option Addr} (hS : offS S p) {k : Nat} {l : List Value} (h : cellsO w p k = some l) : cellsO x p k = some l := by
 cases p with
 | none => cases h
 | some a => exact cellsV_keep hk (hS a rfl) k 0 l h
theorem cellsO_ext {w x : World} (hk : Ext w x) {p : Option Addr} {k : Nat} {l : List Value} (h : cellsO w p k = some l) : cellsO x p k = some l :=
 cellsO_keep hk (by simp [offS, NoS]) h
theorem cellsO_some {w : World} {a : Option Addr} {j k : Nat} {l : List Value} (h : cellsO w (adr a j) k = some l) : a.isSome = true := by
 cases a with
 | none => simp [cellsO, adr] at h
 | some a => rfl

theorem cellsV_len {w : World} {a : Addr} : ∀ {k i : Nat} {l : List Value}, cellsV w a i k = some l → l.length = k
 | 0, _, l, h => by simp [cellsV] at h; subst h; rfl
 | k + 1, i, l, h => by
  unfold cellsV at h
  split at h
  ·rename_i v l' h1 h2
   cases h
   simp [cellsV_len h2]
  ·cases h
theorem cellsO_len {w : World} {p : Option Addr} {k : Nat} {l : List Value} (h : cellsO w p k = some l) : l.length = k := by
 cases p with
 | none => cases h
 | some a => exact cellsV_len h

theorem cellsV_get {w : World} {a : Addr} : ∀ {k i : Nat} {l : List Value}, cellsV w a i k = some l → ∀ (j : Nat) (h : j < l.length), w.cell? (a.add (i + j)) = some l[j]
 | 0, _, l, h, j, hj => by simp [cellsV] at h; subst h; simp at hj
 | k + 1, i, l, h, j, hj => by
  unfold cellsV at h
  split at h
  ·rename_i v l' h1 h2
   cases h
   cases j with
   | zero => exact h1
   | succ j =>
    have := cellsV_get h2 j (by simpa using hj)
    rw [show i + (j + 1) = i + 1 + j from by omega]
    exact this
  ·cases h
theorem cellsO_get {w : World} {p : Option Addr} {k : Nat} {l : List Value} (h : cellsO w p k = some l) {j : Nat} (hj : j < l.length) : cellO w (adr p j) = some l[j] := by
 cases p with
 | none => cases h
 | some a =>
  have := cellsV_get (i := 0) h j hj
  rw [Nat.zero_add] at this
  exact this

def RowK (k : Nat) (w : World) (v : Value) (L : List (List Value)) : Prop :=
 ∃ a c, v = .slice a L.length c ∧ L.length ≤ c ∧ ∀ j (h : j < L.length), cellsO w (adr a (j * k)) k = some L[j]
theorem RowK.ext {k : Nat} {w x : World} {v : Value} {L : List (List Value)} (h : RowK k w v L) (hE : Ext w x) : RowK k x v L := by
 obtain ⟨a, c, rfl, hc, hl⟩ := h
 exact ⟨a, c, rfl, hc, fun j hj => cellsO_ext hE (hl j hj)⟩

/-! ### a block of elements -/
structure SD (k : Nat) (w : World) (b : Nat) (e : TypeId) (cap : Nat) (D : List (List Value)) : Prop where
 lies : ∃ cur : Array Value, ∃ R : List Value, w.heap[b]? = some (.cells cur e (0, 0)) ∧ cur.toList = D.flatten ++ R ∧ cur.size = cap * k
 len : ∀ x ∈ D, x.length = k
 ones : ∀ x ∈ D, ∀ v ∈ x, one v = true

theorem flat_len_k {k : Nat} : ∀ {D : List (List Value)}, (∀ x ∈ D, x.length = k) → D.flatten.length = D.length * k
 | [], _ => by simp
 | x :: D, h => by
  have h1 := h x (List.mem_cons_self ..)
  have h2 := flat_len_k (D := D) (fun y hy => h y (List.mem_cons_of_mem _ hy))
  rw [List.flatten_cons, List.length_append, h1, h2, List.length_cons, Nat.succ_mul]; omega

theorem flat_at {k : Nat} {D : List (List Value)} (h : ∀ x ∈ D, x.length = k) {j : Nat} (hj : j < D.length) : D.flatten = (D.take j).flatten ++ D[j] ++ (D.drop (j + 1)).flatten ∧ (D.take j).flatten.length = j * k := by
 constructor
 ·refine (congrArg List.flatten (split_at hj)).trans ?_
  rw [List.flatten_append, List.flatten_cons, List.append_assoc]
 ·rw [flat_len_k (fun x hx => h x (List.mem_of_mem_take hx)), List.length_take, Nat.min_eq_left (by omega)]

theorem SD.get {k : Nat} {w : World} {b : Nat} {e : TypeId} {cap : Nat} {D : List (List Value)} (h : SD k w b e cap D) {j : Nat} (hj : j < D.length) : cellsO w (some ⟨b, j * k, Option.none⟩) k = some D[j] := by
 obtain ⟨cur, R, hb, hc, hs⟩ := h.lies
 obtain ⟨e1, e2⟩ := flat_at h.len hj
 have hk := h.len D[j] (List.getElem_mem hj)
 have hlen : cur.toList.length = D.flatten.length + R.length := by rw [hc]; simp
 have e3 := congrArg List.length e1
 simp only [List.length_append] at e3
 have hsz : cur.toList.length = cur.size := by simp
 rw [cellsO_block hb (by omega), hc, e1, List.append_assoc, List.append_assoc, List.drop_left' e2, List.take_left' hk]

theorem stC_block {b o : Nat} {e : TypeId} : ∀ (l : List Value) (i : Nat) (w : World) (A V B : List Value) (cur : Array Value), w.heap[b]? = some (.cells cur e (0, 0)) → cur.toList = A ++ V ++ B → A.length = o + i → V.length = l.length → (∀ v ∈ l, one v = true) →
  ∃ w', stC w ⟨b, o, Option.none⟩ i l = some w' ∧ w'.heap.size = w.heap.size ∧ Keep (fun x => x = b) w w' ∧ ∃ cur' : Array Value, w'.heap[b]? = some (.cells cur' e (0, 0)) ∧ cur'.toList = A ++ l ++ B
 | [], i, w, A, V, B, cur, hb, hc, hA, hV, _ => by
  have : V = [] := List.length_eq_zero_iff.1 hV
  subst this
  exact ⟨w, rfl, rfl, Keep.refl _ _, cur, hb, by simpa using hc⟩
 | v :: l, i, w, A, V, B, cur, hb, hc, hA, hV, h1 => by
  cases V with
  | nil => simp at hV
  | cons u V =>
   have hcl := congrArg List.length hc
   simp only [List.length_append, List.length_cons, Array.length_toList] at hcl
   have hlt : o + i < cur.size := by omega
   have hset : (cur.setIfInBounds (o + i) v).toList = (A ++ [v]) ++ V ++ B := by
    rw [Array.toList_setIfInBounds, hc, ← hA, List.append_assoc, List.set_append_right _ _ (Nat.le_refl _), Nat.sub_self]
    simp
   obtain ⟨w', k1, k2, k3, cur', k4, k5⟩ := stC_block l (i + 1) (w.setCell ⟨b, o + i, Option.none⟩ v) (A ++ [v]) V B _ (set_block hb) hset (by rw [List.length_append, hA]; rfl) (by simpa using hV) (fun x hx => h1 x (List.mem_cons_of_mem _ hx))
   refine ⟨w', ?_, by rw [k2]; simp, (set_keep w b (o + i) v).trans k3, cur', k4, by simpa using k5⟩
   unfold stC
   rw [addr_add, cell_of hb, frozen_of hb, Array.getElem?_eq_getElem hlt, h1 v (List.mem_cons_self ..)]
   simpa using k1

theorem SD.set {k : Nat} {w : World} {b : Nat} {e : TypeId} {cap : Nat} {D : List (List Value)} (h : SD k w b e cap D) {P : Program} {t : TypeId} {K : Value → World → Prop} {j : Nat} (hj : j < D.length) {x : List Value} (hx : x.length = k) (h1 : ∀ v ∈ x, one v = true)
  (hs : tyS P t = k) (hi : (P.info? t).isSome = true) (hK : ∀ w', w'.heap.size = w.heap.size → SD k w' b e cap (D.set j x) → Keep (fun i => i = b) w w' → K undef w') :
  stK P t (.pointer (some ⟨b, j * k, Option.none⟩)) (.agg x.toArray) w K := by
 obtain ⟨cur, R, hb, hc, hsz⟩ := h.lies
 obtain ⟨e1, e2⟩ := flat_at h.len hj
 have hk := h.len D[j] (List.getElem_mem hj)
 rw [e1, List.append_assoc, List.append_assoc] at hc
 obtain ⟨w', k1, k2, k3, cur', k4, k5⟩ := stC_block (o := j * k) x 0 w (D.take j).flatten D[j] ((D.drop (j + 1)).flatten ++ R) cur hb (by rw [hc]; simp) (by simpa using e2) (by rw [hk, hx]) h1
 refine ⟨by simp [Value.cells, hx, hs], hi, w', by simpa [Value.cells] using k1, hK w' k2 ⟨⟨cur', R, k4, ?_, ?_⟩, ?_, ?_⟩ k3⟩
 ·have e3 : (D.set j x).flatten = (D.take j).flatten ++ x ++ (D.drop (j + 1)).flatten := by
   rw [List.set_eq_take_append_cons_drop, if_pos hj]; simp
  rw [k5, e3]; simp
 ·have l1 := congrArg List.length k5
  have l2 := congrArg List.length hc
  simp only [List.length_append, Array.length_toList] at l1 l2
  omega
 ·intro y hy
  rcases List.mem_or_eq_of_mem_set hy with hy | rfl
  ·exact h.len y hy
  ·exact hx
 ·intro y hy
  rcases List.mem_or_eq_of_mem_set hy with hy | rfl
  ·exact h.ones y hy
  ·exact h1

theorem SD.keep {k : Nat} {w x : World} {b : Nat} {e : TypeId} {cap : Nat} {D : List (List Value)} {S : Nat → Prop} (h : SD k w b e cap D) (hk : Keep S w x) (hS : ¬ S b) : SD k x b e cap D := by
 obtain ⟨⟨cur, R, hb, hr⟩, h1, h2⟩ := h
 exact ⟨⟨cur, R, (hk.block _ (Array.getElem?_eq_some_iff.1 hb).1 hS).trans hb, hr⟩, h1, h2⟩
theorem SD.ext {k : Nat} {w x : World} {b : Nat} {e : TypeId} {cap : Nat} {D : List (List Value)} (h : SD k w b e cap D) (hE : Ext w x) : SD k x b e cap D := h.keep hE (fun h => h)
theorem SD.lt {k : Nat} {w : World} {b : Nat} {e : TypeId} {cap : Nat} {D : List (List Value)} (h : SD k w b e cap D) : b < w.heap.size := by
 obtain ⟨cur, R, hb, _⟩ := h.lies
 exact (Array.getElem?_eq_some_iff.1 hb).1

def ldAX (P : Program) (w : World) (t : TypeId) (p : Option Addr) : Bool → Nat → Option Value
 | true, k => (cellsO w p k).map fun l => .agg l.toArray
 | false, _ => ldP P w t p
theorem ldA_X {P : Program} {w : World} {t : TypeId} (p : Option Addr) : ldA P w t p = ldAX P w t p (tyA P t) (tyS P t) := by
 cases hA : tyA P t with
 | true => exact ldA_cells hA
 | false => rfl
theorem ldAX_true {P : Program} {w : World} {t : TypeId} (p : Option Addr) (k : Nat) : ldAX P w t p true k = (cellsO w p k).map fun l => .agg l.toArray := nr rfl
attribute [go_sem] ldA_X ldAX_true
end Go.Proofs.YtopbbjdembnfdaaGreat

namespace Go.Proofs.YtopbbjdembnfdaaGreat
open Go

def partsOf (k : Nat) : List Value → List (Nat × Value)
 | [] => []
 | v :: l => (k, v) :: partsOf (k + 1) l

theorem fill_ones : ∀ (l : List Value) (k : Nat) (cells : Array Value), (∀ v ∈ l, v.cells = #[v]) → k + l.length ≤ cells.size →
  ∃ r, Instr.fill (fun i => some (i * 1, 1)) cells (partsOf k l) = some r ∧ r.toList = cells.toList.take k ++ l ++ cells.toList.drop (k + l.length)
 | [], k, cells, _, _ => ⟨cells, rfl, by simp⟩
 | v :: l, k, cells, h, hk => by
  simp only [List.length_cons] at hk
  have hv := h v (List.mem_cons_self ..)
  obtain ⟨r, h1, h2⟩ := fill_ones l (k + 1) (cells.setIfInBounds k v) (fun u hu => h u (List.mem_cons_of_mem _ hu)) (by simp; omega)
  refine ⟨r, ?_, ?_⟩
  ·unfold partsOf Instr.fill
   simp only [hv, Nat.mul_one]
   have : ¬ ((#[v] : Array Value).size ≠ 1 ∨ k + (#[v] : Array Value).size > cells.size) := by simp; omega
   rw [if_neg (by simpa using this)]
   simpa using h1
  ·rw [h2, Array.toList_setIfInBounds, List.take_set, List.drop_set_of_lt (by omega)]
   have hlt : k < cells.toList.length := by simp; omega
   rw [take_succ' hlt]
   have e1 : (cells.toList.take k).length = k := by rw [List.length_take]; omega
   rw [List.set_append_right _ _ (by omega), e1, Nat.sub_self, List.set_cons_zero]
   simp [Nat.add_assoc, Nat.add_comm 1]

section
variable {P : Program} {w : World} {K : Value → World → Prop}
theorem bs_list {t e : TypeId} {z : Value} {l : List Value} {n : Nat} {parts : List (Nat × Value)} (hn : n = l.length) (hp : parts = partsOf 0 l) (hu : tyU P t = some (.slice e)) (hz : tyZ P e = some z) (hs : tyS P e = 1) (hz1 : z.cells = #[z]) (hv : ∀ v ∈ l, v.cells = #[v]) (hl : l.length ≤ 1000000)
  (h : ∀ w1, Ext w w1 → w1.heap.size = w.heap.size + 1 → Own w.heap.size w1 e (.slice (some ⟨w.heap.size, 0, Option.none⟩) n n) l → K (.slice (some ⟨w.heap.size, 0, Option.none⟩) n n) w1) : bsL P t n parts w K .mk := by
 subst hn hp
 unfold bsL bsK
 have hsz : ((Array.range (l.length * 1)).map fun x => z.cells[x % z.cells.size]!).size = l.length := by simp
 obtain ⟨r, h1, h2⟩ := fill_ones l 0 ((Array.range (l.length * 1)).map fun x => z.cells[x % z.cells.size]!) hv (by rw [hsz]; omega)
 have hr : r.toList = l := by
  rw [h2, List.take_zero, List.nil_append, Nat.zero_add, List.drop_of_length_le (by rw [Array.length_toList, hsz]; exact Nat.le_refl _), List.append_nil]
 have : bsC P t l.length (partsOf 0 l) = some (e, r) := by
  unfold bsC
  rw [hu]
  simp only [hz, hs]
  have c1 : (decide (l.length * 1 ≤ 2 ^ 24) && decide (z.cells.size = 1)) = true := by rw [hz1]; simp; omega
  rw [c1, cond_true, h1]; rfl
 rw [this]
 have hrs : r.size = l.length := by rw [← hr]; simp
 exact h _ (Ext.alloc w _) (new_size w _) ⟨by simp, .inr ⟨w.heap.size, l.length, r, rfl, Nat.le_refl _, new_block w _, Nat.le_refl _, by simp [maxLen]; omega, by simpa using hrs, by rw [hr]; simp⟩⟩
end
end Go.Proofs.YtopbbjdembnfdaaGreat

namespace Go.Proofs.YtopbbjdembnfdaaGreat
open Go

abbrev v32 (n : Int) : Value := .int .u32 n

structure DatL where
 ty : Int
 names : List Nm
 nums : List Int
 texts : List Lab
 raw : List UInt8

structure RecL where
 owner : Nm
 ttl : Int
 dat : DatL

def cmpF2 (a b : Nm) : Int := cmpN (foldN a) (foldN b)
def cmpD (a b : DatL) : Int := orI [cmpI a.ty b.ty, lexC cmpF2 a.names b.names, lexC cmpI a.nums b.nums, lexC cmpL a.texts b.texts, cmpL a.raw b.raw]
def cmpRec (a b : RecL) : Int := orI [cmpF2 a.owner b.owner, cmpI a.dat.ty b.dat.ty, cmpD a.dat b.dat]

structure DatAt (w : World) (cs : List Value) (d : DatL) : Prop where
 ex : ∃ nm nu tx rw, cs = [vi d.ty, nm, nu, tx, rw] ∧ NamesAt w nm d.names ∧ Row w nu (d.nums.map v32) ∧ Row w tx (d.texts.map vs) ∧ Row w rw (d.raw.map byteV)
structure RecAt (w : World) (cs : List Value) (r : RecL) : Prop where
 ex : ∃ ow ds, cs = ow :: v32 r.ttl :: ds ∧ Row w ow (r.owner.map vs) ∧ DatAt w ds r.dat

theorem DatAt.ext {w x : World} {cs : List Value} {d : DatL} (h : DatAt w cs d) (hE : Ext w x) : DatAt x cs d := by
 obtain ⟨nm, nu, tx, rw, e, h1, h2, h3, h4⟩ := h.ex
 exact ⟨nm, nu, tx, rw, e, h1.ext hE, h2.ext hE, h3.ext hE, h4.ext hE⟩
theorem RecAt.ext {w x : World} {cs : List Value} {r : RecL} (h : RecAt w cs r) (hE : Ext w x) : RecAt x cs r := by
 obtain ⟨ow, ds, e, h1, h2⟩ := h.ex
 exact ⟨ow, ds, e, h1.ext hE, h2.ext hE⟩

structure DatOk (d : DatL) : Prop where
 names : ∀ n ∈ d.names, LB n ∧ n.length ≤ 1000000000000000
 nn : d.names.length ≤ 1000000000000000
 nu : d.nums.length ≤ 1000000000000000
 nt : d.texts.length ≤ 1000000000000000
 nv : ∀ n ∈ d.nums, 0 ≤ n ∧ n ≤ 4294967295
 nr : d.raw.length ≤ 1000000000000000
structure RecOk (r : RecL) : Prop where
 lb : LB r.owner
 len : r.owner.length ≤ 1000000000000000
 dat : DatOk r.dat

theorem cellO_at {w : World} {b i : Nat} {cur : Array Value} {e : TypeId} {fr : Nat × Nat} {v : Value} (h : w.heap[b]? = some (.cells cur e fr)) (hv : cur[i]? = some v) : cellO w (some ⟨b, i, Option.none⟩) = some v := by
 show w.cell? _ = _
 rw [cell_of h]; exact hv
end Go.Proofs.YtopbbjdembnfdaaGreat

namespace Go.Proofs.YtopbbjdembnfdaaGreat
open Go
section
variable {H : Type} {enc : TypeId × Value → H} {P : Program} {w : World} {base : Nat} {sp : Nat → Bool} {held : Bool}

def RdC (enc : TypeId × Value → H) (P : Program) (w : World) (base : Nat) (sp : Nat → Bool) (held : Bool) (t : TypeId) (cs : List Value) : Prop := ∃ n x, DataW.trod enc P w base sp held n t cs = some x ∧ ∀ k ∈ x.1.weights P t, k ≤ reachBytes
theorem RdC.one {t : TypeId} {v : Value} (h : RdC enc P w base sp held t [v]) : Rd enc P w base sp held t v := h
theorem Rd.c {t : TypeId} {v : Value} (h : Rd enc P w base sp held t v) : RdC enc P w base sp held t [v] := h

theorem cellsV_of {a : Addr} : ∀ (k i : Nat) {l : List Value}, l.length = k → (∀ j (h : j < l.length), w.cell? (a.add (i + j)) = some l[j]) → cellsV w a i k = some l
 | 0, _, l, hl, _ => by
  have : l = [] := List.length_eq_zero_iff.1 hl
  subst this; rfl
 | k + 1, i, l, hl, h => by
  cases l with
  | nil => cases hl
  | cons v l =>
   have h0 := h 0 (by simp)
   have ih := cellsV_of (l := l) k (i + 1) (by simpa using hl) (fun j hj => by
    have := h (j + 1) (by simpa using hj)
    rw [show i + (j + 1) = i + 1 + j from by omega] at this
    simpa using this)
   unfold cellsV
   rw [Nat.add_zero] at h0
   rw [h0, ih]; rfl

theorem rd_sliceC {t e : TypeId} {k : Nat} {v : Value} (h : Rd enc P w base sp held t v) (ht : P.underlying t = some (.slice e)) (hc : P.cellsOf e = k) :
  ∃ L, RowK k w v L ∧ (∀ cs ∈ L, RdC enc P w base sp held e cs) ∧ L.length * P.bytesOf e ≤ reachBytes := by
 obtain ⟨n, x, h, hw⟩ := h
 rcases Go.Deep.open_slice ht h with ⟨h1, _⟩ | ⟨a, len, cap, m, q, D, Pl, h1, _, hl, hm, hmm, rfl, hx⟩
 ·simp only [List.cons.injEq, and_true] at h1
  subst h1
  exact ⟨[], ⟨Option.none, 0, rfl, Nat.le_refl _, fun j h => by simp at h⟩, fun u h => (by cases h), by simp⟩
 ·simp only [List.cons.injEq, and_true] at h1
  subst h1
  have hml : len ≤ m := by rw [hmm]; split <;> omega
  simp only [DataW.weights, ht] at hw
  rw [hc] at hx
  obtain ⟨V, hV⟩ := Go.Deep.choose_lt (α := List Value) (p := fun i cs => w.cells? base (a.add (i * k)) k = some cs ∧ DataW.trod enc P w base sp held q e cs = some (D i, Pl i)) hx
  refine ⟨(List.range len).map V, ⟨some a, cap, by simp, by simpa using hl, fun j hj => ?_⟩, fun u hu => ?_, ?_⟩
  ·simp at hj
   obtain ⟨_, h2, h3⟩ := World.cells?_some (hV j (by omega)).1
   have e1 : ((List.range len).map V)[j]'(by simpa using hj) = V j := by simp
   rw [e1]
   show cellsV w (a.add (j * k)) 0 k = _
   refine cellsV_of k 0 h2 (fun i hi => ?_)
   rw [Nat.zero_add, h3 i (by omega)]
   exact List.getElem?_eq_getElem hi
  ·obtain ⟨j, hj, rfl⟩ := List.mem_map.1 hu
   simp at hj
   refine ⟨_, _, (hV j (by omega)).2, fun q hq => hw q (List.mem_cons_of_mem _ (List.mem_append_left _ (weightsAll_in (d := D j) ?_ hq)))⟩
   exact List.mem_map.2 ⟨j, by simpa using hj, rfl⟩
  ·have h1 := hw _ (List.mem_cons_self ..)
   have h2 : ((List.range len).map V).length * P.bytesOf e ≤ (((List.range len).map D).length + ((List.range (m - len)).map fun j => D (len + j)).length) * P.bytesOf e := Nat.mul_le_mul (by simp) (Nat.le_refl _)
   omega
theorem rd_field {e : TypeId} {fs : Array Field} {cs : List Value} (h : RdC enc P w base sp held e cs) (he : P.underlying e = some (.struct fs)) : cs.length = P.cellsOf e ∧ ∀ (i : Nat) (f : Field), fs[i]? = some f → RdC enc P w base sp held f.type ((cs.drop f.offset).take (P.cellsOf f.type)) := by
 obtain ⟨n, x, h, hw⟩ := h
 obtain ⟨xs, m, _, rfl, hl, hxl, hf⟩ := DataW.trod_struct he h
 refine ⟨hl, fun i f hfi => ?_⟩
 have hi : i < fs.size := (Array.getElem?_eq_some_iff.1 hfi).1
 have h1 := hf i f hfi
 rw [List.getElem?_eq_getElem (by omega)] at h1
 refine ⟨m, _, h1, fun k hk => hw k ?_⟩
 simp only [DataW.weights, he]
 refine DataW.weights_mem_each (ts := fs.toList.map (·.type)) (ds := xs.map (·.1)) (j := i) (t := f.type) (d := xs[i].1) ?_ ?_ k hk
 ·rw [List.getElem?_map]
  rw [show fs.toList[i]? = some f from by simpa using hfi]; rfl
 ·rw [List.getElem?_map, List.getElem?_eq_getElem (by omega)]; rfl
theorem rd_int {t : TypeId} {k : IntKind} {cs : List Value} (h : RdC enc P w base sp held t cs) (ht : P.underlying t = some (.int k)) : ∃ n, cs = [.int k n] ∧ (Lit.int k n).wf = true := by
 obtain ⟨n, x, h, _⟩ := h
 obtain ⟨m, h1, _, h2⟩ := DataW.trod_int ht h
 exact ⟨m, h1, h2⟩
end
end Go.Proofs.YtopbbjdembnfdaaGreat

namespace Go.Proofs.YtopbbjdembnfdaaGreat
open Go
set_option maxRecDepth 10000

theorem rowN_ok (w : World) (a b : Value) (xs ys : List Nm) (ha : NamesAt w a xs) (hb : NamesAt w b ys) (hx : ∀ n ∈ xs, LB n ∧ n.length ≤ 1000000000000000) (hy : ∀ n ∈ ys, LB n ∧ n.length ≤ 1000000000000000) (hxl : xs.length ≤ 1000000000000000) (hyl : ys.length ≤ 1000000000000000) :
  Fn Tryz.prog 187 #[a, b, .func (.func 54) #[] #[]] w (fun v w' => v = vi (lexC cmpF2 xs ys) ∧ Ext w w') := by
 refine enter Tryz.func187 Tryz.ntmps187 rfl rfl ?_
 repeat refine c_r ?_
 refine rg0 ?_
 repeat refine c_r ?_
 refine rq ?_; intro gd K hgd hK
 try simp (disch := first | omega | assumption | rfl) only [↓reduceIte, go_sem, Nat.reduceLT, Nat.reduceEqDiff, Nat.reduceSub]
 refine Fn.mono (C_cn.CompareFunc_ok (Rl := fun w (n : Nm) v => Row w v (n.map vs)) (U := fun n => LB n ∧ n.length ≤ 1000000000000000) (cf := cmpF2) (fun w x a v hE h => h.ext hE) rfl (fun A x y u v hE hx hy hu hv => NCompare_ok A u v x y hu hv hx.1 hy.1 (by have := hx.2; omega) (by have := hy.2; omega)) (xs := xs) (ys := ys) ha hb hx hy hxl hyl) ?_
 rintro _ w1 ⟨rfl, hE⟩
 try simp (disch := first | omega | assumption | rfl) only [↓reduceIte, go_sem, Nat.reduceLT, Nat.reduceEqDiff, Nat.reduceSub]
 refine hK _ _ ?_; clear hK hgd; clear K; try clear gd
 repeat refine c_r ?_
 refine rt0 Tryz.ntmps187 ?_
 exact ⟨rfl, hE⟩

theorem RowR_map {α : Type} {f : α → Value} {w : World} {v : Value} {xs : List α} (h : Row w v (xs.map f)) : C_cu.RowR (fun _ a u => u = f a) w v xs := ⟨_, h, by simp, fun i h1 h2 => by simp⟩

theorem rowU_ok (w : World) (a b : Value) (xs ys : List Int) (ha : Row w a (xs.map v32)) (hb : Row w b (ys.map v32)) (hxl : xs.length ≤ 1000000000000000) (hyl : ys.length ≤ 1000000000000000) :
  Fn Tryz.prog 188 #[a, b, .func (.func 189) #[] #[]] w (fun v w' => v = vi (lexC cmpI xs ys) ∧ Ext w w') := by
 refine enter Tryz.func188 Tryz.ntmps188 rfl rfl ?_
 repeat refine c_r ?_
 refine rg0 ?_
 repeat refine c_r ?_
 refine rq ?_; intro gd K hgd hK
 try simp (disch := first | omega | assumption | rfl) only [↓reduceIte, go_sem, Nat.reduceLT, Nat.reduceEqDiff, Nat.reduceSub]
 refine Fn.mono (C_cu.CompareFunc_ok (Rl := fun _ (n : Int) v => v = v32 n) (U := fun _ => True) (cf := cmpI) (fun w x a v hE h => h) rfl (fun A x y u v hE hx hy hu hv => by subst hu hv; exact Fn.mono (N_uint32.Compare_ok A x y) (fun _ _ ⟨h1, h2⟩ => ⟨h1, h2 ▸ Keep.refl _ _⟩)) (xs := xs) (ys := ys) (RowR_map ha) (RowR_map hb) (fun _ _ => trivial) (fun _ _ => trivial) hxl hyl) ?_
 rintro _ w1 ⟨rfl, hE⟩
 try simp (disch := first | omega | assumption | rfl) only [↓reduceIte, go_sem, Nat.reduceLT, Nat.reduceEqDiff, Nat.reduceSub]
 refine hK _ _ ?_; clear hK hgd; clear K; try clear gd
 repeat refine c_r ?_
 refine rt0 Tryz.ntmps188 ?_
 exact ⟨rfl, hE⟩

theorem rowT_ok (w : World) (a b : Value) (xs ys : List Lab) (ha : Row w a (xs.map vs)) (hb : Row w b (ys.map vs)) (hxl : xs.length ≤ 1000000000000000) (hyl : ys.length ≤ 1000000000000000) :
  Fn Tryz.prog 190 #[a, b, .func (.func 170) #[] #[]] w (fun v w' => v = vi (lexC cmpL xs ys) ∧ Ext w w') := by
 refine enter Tryz.func190 Tryz.ntmps190 rfl rfl ?_
 repeat refine c_r ?_
 refine rg0 ?_
 repeat refine c_r ?_
 refine rq ?_; intro gd K hgd hK
 try simp (disch := first | omega | assumption | rfl) only [↓reduceIte, go_sem, Nat.reduceLT, Nat.reduceEqDiff, Nat.reduceSub]
 refine Fn.mono (C_ct.CompareFunc_ok (Rl := fun _ (n : Lab) v => v = vs n) (U := fun _ => True) (cf := cmpL) (fun w x a v hE h => h) rfl (fun A x y u v hE hx hy hu hv => by subst hu hv; exact Fn.mono (SCompare_ok A x y) (fun _ _ ⟨h1, h2⟩ => ⟨h1, h2 ▸ Keep.refl _ _⟩)) (xs := xs) (ys := ys) ⟨_, ha, by simp, fun i h1 h2 => by simp⟩ ⟨_, hb, by simp, fun i h1 h2 => by simp⟩ (fun _ _ => trivial) (fun _ _ => trivial) hxl hyl) ?_
 rintro _ w1 ⟨rfl, hE⟩
 try simp (disch := first | omega | assumption | rfl) only [↓reduceIte, go_sem, Nat.reduceLT, Nat.reduceEqDiff, Nat.reduceSub]
 refine hK _ _ ?_; clear hK hgd; clear K; try clear gd
 repeat refine c_r ?_
 refine rt0 Tryz.ntmps190 ?_
 exact ⟨rfl, hE⟩

theorem DCompare_ok (w : World) (ca cb : List Value) (a b : DatL) (ha : DatAt w ca a) (hb : DatAt w cb b) (hoa : DatOk a) (hob : DatOk b) :
  Fn Tryz.prog 147 #[.agg ca.toArray, .agg cb.toArray] w (fun v w' => v = vi (cmpD a b) ∧ Ext w w') := by
 obtain ⟨nm, nu, tx, rw', rfl, a1, a2, a3, a4⟩ := ha.ex
 obtain ⟨nm2, nu2, tx2, rw2, rfl, b1, b2, b3, b4⟩ := hb.ex
 refine enter Tryz.func147 Tryz.ntmps147 rfl rfl ?_
 repeat refine c_r ?_
 refine rg0 ?_
 repeat refine c_r ?_
 have k1 := new_block w (.cells #[vi a.ty, nm, nu, tx, rw'] 59 (0, 0))
 have kE := (Ext.alloc w (.cells #[vi a.ty, nm, nu, tx, rw'] 59 (0, 0))).trans (Ext.alloc _ (.cells #[vi b.ty, nm2, nu2, tx2, rw2] 59 (0, 0)))
 have k2 := new_block (w.alloc (.cells #[vi a.ty, nm, nu, tx, rw'] 59 (0, 0))) (.cells #[vi b.ty, nm2, nu2, tx2, rw2] 59 (0, 0))
 have k1' := (RowKit.Below.heap_alloc _ (.cells #[vi b.ty, nm2, nu2, tx2, rw2] 59 (0, 0)) _ (by simp)).trans k1
 rw [new_size] at k2 ⊢
 clear k1
 revert k1' kE k2
 generalize (w.alloc (.cells #[vi a.ty, nm, nu, tx, rw'] 59 (0, 0))).alloc (.cells #[vi b.ty, nm2, nu2, tx2, rw2] 59 (0, 0)) = w1
 intro kE k2 k1
 refine W_drw (fun _ => false) [(0, true), (1, true), (2, true), (3, true), (5, true), (6, true), (7, true), (8, true), (10, true), (11, true), (12, true), (13, true), (15, true), (16, true), (17, true), (18, true), (20, true), (21, true), (22, true), (23, true), (4, false), (9, false), (14, false), (19, false), (24, false), (25, false), (26, false), (27, true)] NoS mixed (by kernel_rfl) ?_; intro gd K x hgd hx hxe hK; clear hxe
 have hE1 := kE.trans hx
 have K1 := (hx.block _ (Array.getElem?_eq_some_iff.1 k1).1 (fun h => h)).trans k1
 have K2 := (hx.block _ (Array.getElem?_eq_some_iff.1 k2).1 (fun h => h)).trans k2
 have p0 : cellO x (some ⟨w.heap.size, 0, Option.none⟩) = some (vi a.ty) := cellO_at K1 rfl
 have p1 : cellO x (some ⟨w.heap.size, 1, Option.none⟩) = some (nm) := cellO_at K1 rfl
 have p2 : cellO x (some ⟨w.heap.size, 2, Option.none⟩) = some (nu) := cellO_at K1 rfl
 have p3 : cellO x (some ⟨w.heap.size, 3, Option.none⟩) = some (tx) := cellO_at K1 rfl
 have p4 : cellO x (some ⟨w.heap.size, 4, Option.none⟩) = some (rw') := cellO_at K1 rfl
 have q0 : cellO x (some ⟨w.heap.size + 1, 0, Option.none⟩) = some (vi b.ty) := cellO_at K2 rfl
 have q1 : cellO x (some ⟨w.heap.size + 1, 1, Option.none⟩) = some (nm2) := cellO_at K2 rfl
 have q2 : cellO x (some ⟨w.heap.size + 1, 2, Option.none⟩) = some (nu2) := cellO_at K2 rfl
 have q3 : cellO x (some ⟨w.heap.size + 1, 3, Option.none⟩) = some (tx2) := cellO_at K2 rfl
 have q4 : cellO x (some ⟨w.heap.size + 1, 4, Option.none⟩) = some (rw2) := cellO_at K2 rfl
 simp (disch := first | omega | assumption | rfl) only [↓reduceIte, go_sem, Nat.reduceLT, Nat.reduceEqDiff, Nat.reduceSub, p0, p1, p2, p3, p4, q0, q1, q2, q3, q4]
 refine Fn.mono (N_int.Compare_ok x _ _) ?_
 rintro _ x0 ⟨rfl, h0⟩
 replace h0 := h0.symm
 subst h0
 refine ⟨.inr (Keep.refl _ _), ?_⟩
 simp (disch := first | omega | assumption | rfl) only [↓reduceIte, go_sem, Nat.reduceLT, Nat.reduceEqDiff, Nat.reduceSub]
 refine Fn.mono (rowN_ok x _ _ _ _ (a1.ext hE1) (b1.ext hE1) hoa.names hob.names hoa.nn hob.nn) ?_
 rintro _ x1 ⟨rfl, h1⟩
 refine ⟨.inr h1, ?_⟩
 simp (disch := first | omega | assumption | rfl) only [↓reduceIte, go_sem, Nat.reduceLT, Nat.reduceEqDiff, Nat.reduceSub]
 refine Fn.mono (rowU_ok x1 _ _ _ _ (a2.ext (hE1.trans h1)) (b2.ext (hE1.trans h1)) hoa.nu hob.nu) ?_
 rintro _ x2 ⟨rfl, h2⟩
 refine ⟨.inr h2, ?_⟩
 simp (disch := first | omega | assumption | rfl) only [↓reduceIte, go_sem, Nat.reduceLT, Nat.reduceEqDiff, Nat.reduceSub]
 refine Fn.mono (rowT_ok x2 _ _ _ _ (a3.ext ((hE1.trans h1).trans h2)) (b3.ext ((hE1.trans h1).trans h2)) hoa.nt hob.nt) ?_
 rintro _ x3 ⟨rfl, h3⟩
 refine ⟨.inr h3, ?_⟩
 have hE3 := ((hE1.trans h1).trans h2).trans h3
 simp (disch := first | omega | assumption | rfl) only [↓reduceIte, go_sem, Nat.reduceLT, Nat.reduceEqDiff, Nat.reduceSub]
 refine Fn.mono (BCompare_ok x3 _ _ _ _ (a4.ext hE3) (b4.ext hE3)) ?_
 rintro _ x0 ⟨rfl, h0⟩
 replace h0 := h0.symm
 subst h0
 refine ⟨.inr (Keep.refl _ _), ?_⟩
 simp (disch := first | omega | assumption | rfl) only [↓reduceIte, go_sem, Nat.reduceLT, Nat.reduceEqDiff, Nat.reduceSub]
 refine bs_list (z := vi 0) (l := [vi (cmpI a.ty b.ty), vi (lexC cmpF2 a.names b.names), vi (lexC cmpI a.nums b.nums), vi (lexC cmpL a.texts b.texts), vi (cmpL a.raw b.raw)]) rfl rfl rfl rfl rfl rfl (fun v hv => by simp at hv; rcases hv with rfl | rfl | rfl | rfl | rfl <;> rfl) (by simp) ?_
 intro x4 h4 hs4 ho4
 refine ⟨.inr h4, ?_⟩
 simp (disch := first | omega | assumption | rfl) only [↓reduceIte, go_sem, Nat.reduceLT, Nat.reduceEqDiff, Nat.reduceSub]
 refine Fn.mono (Or_ok x4 _ [cmpI a.ty b.ty, lexC cmpF2 a.names b.names, lexC cmpI a.nums b.nums, lexC cmpL a.texts b.texts, cmpL a.raw b.raw] ho4.row (by simp)) ?_
 rintro _ x0 ⟨rfl, h0⟩
 replace h0 := h0.symm
 subst h0
 refine ⟨.inr (Keep.refl _ _), ?_⟩
 simp (disch := first | omega | assumption | rfl) only [↓reduceIte, go_sem, Nat.reduceLT, Nat.reduceEqDiff, Nat.reduceSub]
 refine hK _ _ ?_; clear hK hgd; clear K; try clear gd
 repeat refine c_r ?_
 refine rt0 Tryz.ntmps147 ?_
 exact ⟨rfl, hE3.trans h4⟩
end Go.Proofs.YtopbbjdembnfdaaGreat

namespace Go.Proofs.YtopbbjdembnfdaaGreat
open Go
set_option maxRecDepth 10000

theorem RecCompare_ok (w : World) (ca cb : List Value) (a b : RecL) (ha : RecAt w ca a) (hb : RecAt w cb b) (hoa : RecOk a) (hob : RecOk b) :
  Fn Tryz.prog 137 #[.agg ca.toArray, .agg cb.toArray] w (fun v w' => v = vi (cmpRec a b) ∧ Ext w w') := by
 obtain ⟨ow, ds, rfl, a1, a2⟩ := ha.ex
 obtain ⟨ow2, ds2, rfl, b1, b2⟩ := hb.ex
 have a2' := a2
 have b2' := b2
 obtain ⟨nm, nu, tx, rw', rfl, _⟩ := a2.ex
 obtain ⟨nm2, nu2, tx2, rw2, rfl, _⟩ := b2.ex
 refine enter Tryz.func137 Tryz.ntmps137 rfl rfl ?_
 repeat refine c_r ?_
 refine rg0 ?_
 repeat refine c_r ?_
 have k1 := new_block w (.cells #[ow, v32 a.ttl, vi a.dat.ty, nm, nu, tx, rw'] 110 (0, 0))
 have kE := (Ext.alloc w (.cells #[ow, v32 a.ttl, vi a.dat.ty, nm, nu, tx, rw'] 110 (0, 0))).trans (Ext.alloc _ (.cells #[ow2, v32 b.ttl, vi b.dat.ty, nm2, nu2, tx2, rw2] 110 (0, 0)))
 have k2 := new_block (w.alloc (.cells #[ow, v32 a.ttl, vi a.dat.ty, nm, nu, tx, rw'] 110 (0, 0))) (.cells #[ow2, v32 b.ttl, vi b.dat.ty, nm2, nu2, tx2, rw2] 110 (0, 0))
 have k1' := (RowKit.Below.heap_alloc _ (.cells #[ow2, v32 b.ttl, vi b.dat.ty, nm2, nu2, tx2, rw2] 110 (0, 0)) _ (by simp)).trans k1
 rw [new_size] at k2 ⊢
 clear k1
 revert k1' kE k2
 generalize (w.alloc (.cells #[ow, v32 a.ttl, vi a.dat.ty, nm, nu, tx, rw'] 110 (0, 0))).alloc (.cells #[ow2, v32 b.ttl, vi b.dat.ty, nm2, nu2, tx2, rw2] 110 (0, 0)) = w1
 intro kE k2 k1
 refine W_drw (fun _ => false) [(0, true), (1, true), (2, true), (3, true), (5, true), (6, true), (7, true), (8, true), (9, true), (10, true), (12, true), (13, true), (14, true), (15, true), (4, false), (11, false), (16, false), (17, false), (18, false), (19, true)] NoS mixed (by kernel_rfl) ?_; intro gd K x hgd hx hxe hK; clear hxe
 have hE1 := kE.trans hx
 have K1 := (hx.block _ (Array.getElem?_eq_some_iff.1 k1).1 (fun h => h)).trans k1
 have K2 := (hx.block _ (Array.getElem?_eq_some_iff.1 k2).1 (fun h => h)).trans k2
 have p0 : cellO x (some ⟨w.heap.size, 0, Option.none⟩) = some ow := cellO_at K1 rfl
 have p2 : cellO x (some ⟨w.heap.size, 2, Option.none⟩) = some (vi a.dat.ty) := cellO_at K1 rfl
 have p5 : cellsO x (some ⟨w.heap.size, 2, Option.none⟩) 5 = some [vi a.dat.ty, nm, nu, tx, rw'] := cellsO_block K1 (Nat.le_refl 7)
 have q0 : cellO x (some ⟨w.heap.size + 1, 0, Option.none⟩) = some ow2 := cellO_at K2 rfl
 have q2 : cellO x (some ⟨w.heap.size + 1, 2, Option.none⟩) = some (vi b.dat.ty) := cellO_at K2 rfl
 have q5 : cellsO x (some ⟨w.heap.size + 1, 2, Option.none⟩) 5 = some [vi b.dat.ty, nm2, nu2, tx2, rw2] := cellsO_block K2 (Nat.le_refl 7)
 simp (disch := first | omega | assumption | rfl) only [↓reduceIte, go_sem, Nat.reduceLT, Nat.reduceEqDiff, Nat.reduceSub, p0, p2, p5, q0, q2, q5, Nat.add_zero]
 refine Fn.mono (NCompare_ok x _ _ _ _ (a1.ext hE1) (b1.ext hE1) hoa.lb hob.lb (by have := hoa.len; omega) (by have := hob.len; omega)) ?_
 rintro _ x1 ⟨rfl, h1⟩
 refine ⟨.inr h1, ?_⟩
 simp (disch := first | omega | assumption | rfl) only [↓reduceIte, go_sem, Nat.reduceLT, Nat.reduceEqDiff, Nat.reduceSub]
 refine Fn.mono (N_int.Compare_ok x1 _ _) ?_
 rintro _ x0 ⟨rfl, h0⟩
 replace h0 := h0.symm
 subst h0
 refine ⟨.inr (Keep.refl _ _), ?_⟩
 simp (disch := first | omega | assumption | rfl) only [↓reduceIte, go_sem, Nat.reduceLT, Nat.reduceEqDiff, Nat.reduceSub]
 refine Fn.mono (DCompare_ok x1 _ _ a.dat b.dat (a2'.ext (hE1.trans h1)) (b2'.ext (hE1.trans h1)) hoa.dat hob.dat) ?_
 rintro _ x2 ⟨rfl, h2⟩
 refine ⟨.inr h2, ?_⟩
 simp (disch := first | omega | assumption | rfl) only [↓reduceIte, go_sem, Nat.reduceLT, Nat.reduceEqDiff, Nat.reduceSub]
 refine bs_list (z := vi 0) (l := [vi (cmpN (foldN a.owner) (foldN b.owner)), vi (cmpI a.dat.ty b.dat.ty), vi (cmpD a.dat b.dat)]) rfl rfl rfl rfl rfl rfl (fun v hv => by simp at hv; rcases hv with rfl | rfl | rfl <;> rfl) (by simp) ?_
 intro x4 h4 hs4 ho4
 refine ⟨.inr h4, ?_⟩
 simp (disch := first | omega | assumption | rfl) only [↓reduceIte, go_sem, Nat.reduceLT, Nat.reduceEqDiff, Nat.reduceSub]
 refine Fn.mono (Or_ok x4 _ [cmpN (foldN a.owner) (foldN b.owner), cmpI a.dat.ty b.dat.ty, cmpD a.dat b.dat] ho4.row (by simp)) ?_
 rintro _ x0 ⟨rfl, h0⟩
 replace h0 := h0.symm
 subst h0
 refine ⟨.inr (Keep.refl _ _), ?_⟩
 simp (disch := first | omega | assumption | rfl) only [↓reduceIte, go_sem, Nat.reduceLT, Nat.reduceEqDiff, Nat.reduceSub]
 refine hK _ _ ?_; clear hK hgd; clear K; try clear gd
 repeat refine c_r ?_
 refine rt0 Tryz.ntmps137 ?_
 exact ⟨rfl, ((hE1.trans h1).trans h2).trans h4⟩
end Go.Proofs.YtopbbjdembnfdaaGreat

namespace Go.Proofs.YtopbbjdembnfdaaGreat
open Go

structure OwnK (k B : Nat) (w : World) (e : TypeId) (v : Value) (L : List (List Value)) : Prop where
 own : w.ownsRow B e k v L.length L.flatten
 len : ∀ x ∈ L, x.length = k
 ones : ∀ x ∈ L, ∀ v ∈ x, one v = true

section
variable {P : Program} {d : Option Tmp} {ty : TypeId} {ps : String} {af : Array Edge} {g : Option (Nat × Bool)} {ρ : Operand → Value} {w : World} {K : Value → World → Prop}

theorem OwnK.nil (k B : Nat) (w : World) (e : TypeId) : OwnK k B w e (.slice Option.none 0 0) [] := ⟨⟨by simp, .inl ⟨rfl, rfl⟩⟩, fun x h => (by cases h), fun x h => (by cases h)⟩
theorem OwnK.ge {k B : Nat} {e : TypeId} {v : Value} {L : List (List Value)} (h : OwnK k B w e v L) {b : Nat} (hb : some b = v.ownBlock) : B ≤ b ∧ b < w.heap.size := by
 rcases h.own.2 with ⟨rfl, _⟩ | ⟨g, cap, cur, rfl, hg, hc, _⟩
 ·cases hb
 ·cases hb; exact ⟨hg, (Array.getElem?_eq_some_iff.1 hc).1⟩
theorem OwnK.keep {k B : Nat} {e : TypeId} {v : Value} {L : List (List Value)} {x : World} {S : Nat → Prop} (h : OwnK k B w e v L) (hk : Keep S w x) (hS : ∀ b, some b = v.ownBlock → ¬ S b) : OwnK k B x e v L := by
 obtain ⟨⟨h1, h2⟩, h3, h4⟩ := h
 refine ⟨⟨h1, ?_⟩, h3, h4⟩
 rcases h2 with h2 | ⟨g, cap, cur, hv, hb, hg, rest⟩
 ·exact .inl h2
 ·exact .inr ⟨g, cap, cur, hv, hb, (hk.block _ (Array.getElem?_eq_some_iff.1 hg).1 (hS _ (by rw [hv]; rfl))).trans hg, rest⟩
theorem OwnK.ext {k B : Nat} {e : TypeId} {v : Value} {L : List (List Value)} {x : World} (h : OwnK k B w e v L) (hk : Ext w x) : OwnK k B x e v L := h.keep hk (fun _ _ h => h)
theorem OwnK.mono {k B B' : Nat} {e : TypeId} {v : Value} {L : List (List Value)} (h : OwnK k B w e v L) (hB : B' ≤ B) : OwnK k B' w e v L := by
 obtain ⟨⟨h1, h2⟩, h3, h4⟩ := h
 refine ⟨⟨h1, ?_⟩, h3, h4⟩
 rcases h2 with h2 | ⟨g, cap, cur, hv, hb, rest⟩
 ·exact .inl h2
 ·exact .inr ⟨g, cap, cur, hv, by omega, rest⟩

theorem OwnK.cases {k B : Nat} {e : TypeId} {v : Value} {L : List (List Value)} (h : OwnK k B w e v L) :
  (v = .slice Option.none 0 0 ∧ L = []) ∨ ∃ b cap, v = .slice (some ⟨b, 0, Option.none⟩) L.length cap ∧ B ≤ b ∧ L.length ≤ cap ∧ cap ≤ maxLen ∧ SD k w b e cap L := by
 obtain ⟨⟨h1, h2⟩, h3, h4⟩ := h
 rcases h2 with ⟨rfl, h0⟩ | ⟨g, cap, cur, rfl, hg, hb, hn, hm, hcs, hx⟩
 ·exact .inl ⟨rfl, List.length_eq_zero_iff.1 h0⟩
 ·refine .inr ⟨g, cap, rfl, hg, hn, hm, ⟨cur, cur.toList.drop (L.length * k), hb, ?_, hcs⟩, h3, h4⟩
  rw [← hx, List.take_append_drop]

theorem OwnK.of_sd {k B b cap : Nat} {e : TypeId} {L : List (List Value)} (h : SD k w b e cap L) (hB : B ≤ b) (hc : L.length ≤ cap) (hm : cap ≤ maxLen) : OwnK k B w e (.slice (some ⟨b, 0, Option.none⟩) L.length cap) L := by
 obtain ⟨cur, R, hb, e1, e2⟩ := h.lies
 refine ⟨⟨flat_len_k h.len, .inr ⟨b, cap, cur, rfl, hB, hb, hc, hm, e2, ?_⟩⟩, h.len, h.ones⟩
 rw [e1, List.take_left' (flat_len_k h.len)]

theorem OwnK.rowK {k B : Nat} {e : TypeId} {v : Value} {L : List (List Value)} (h : OwnK k B w e v L) : RowK k w v L := by
 rcases h.cases with ⟨rfl, rfl⟩ | ⟨b, cap, rfl, _, hc, _, hD⟩
 ·exact ⟨Option.none, 0, rfl, Nat.le_refl _, fun j h => by simp at h⟩
 ·exact ⟨_, cap, rfl, hc, fun j hj => by rw [adr_some, Nat.zero_add]; exact hD.get hj⟩

theorem Src1.of_rowK {k : Nat} {u : Value} {L : List (List Value)} (h : RowK k w u L) (hk : ∀ x ∈ L, x.length = k) : Src1 w u L.length k L.flatten := by
 obtain ⟨a, c, rfl, hc, hl⟩ := h
 refine ⟨a, c, rfl, flat_len_k hk, fun j hj => ?_⟩
 rw [flat_len_k hk] at hj
 have hk0 : 0 < k := Nat.pos_of_ne_zero (fun h => by subst h; simp at hj)
 have hq : j / k < L.length := Nat.div_lt_of_lt_mul (by rw [Nat.mul_comm]; exact hj)
 obtain ⟨e1, e2⟩ := flat_at hk hq
 have hlen := hk L[j / k] (List.getElem_mem hq)
 have hr : j % k < L[j / k].length := by rw [hlen]; exact Nat.mod_lt _ hk0
 have hg := cellsO_get (hl (j / k) hq) hr
 have hj2 : j / k * k + j % k = j := by rw [Nat.mul_comm]; exact Nat.div_add_mod j k
 rw [adr_adr, hj2] at hg
 rw [hg]
 have : L.flatten[j]? = some L[j / k][j % k] := by
  rw [e1, List.append_assoc, List.getElem?_append_right (by rw [e2]; omega), List.getElem?_append_left (by rw [e2]; omega), e2]
  rw [show j - j / k * k = j % k from by omega]
  exact List.getElem?_eq_getElem hr
 rw [List.getElem?_eq_getElem (by rw [flat_len_k hk]; exact hj)] at this
 exact this.symm

theorem op_appK {k B : Nat} {s x : Operand} {t e : TypeId} {inf : TypeInfo} {z : Value} {bytes : Nat} {v u : Value} {L N : List (List Value)} (hown : OwnK k B w e v L) (hrow : RowK k w u N)
  (ht : tyU P t = some (.slice e)) (hi : P.info? e = some inf) (hz : inf.zero = some z)
  (hsize : inf.size = k) (hby : inf.bytes = bytes) (hzs : z.cells.size = k) (hk0 : 0 < k) (hv : ρ s = v) (hu : ρ x = u)
  (hl : ∀ x ∈ N, x.length = k) (h1 : ∀ x ∈ N, ∀ q ∈ x, one q = true) (hlen : L.length + N.length ≤ 100000000000) (hbytes : bytes ≤ 1000) (hB : B ≤ w.heap.size)
  (h : ∀ v' w', OwnK k B w' e v' (L ++ N) → (∀ w0, Ext w0 w → w0.heap.size ≤ B → Ext w0 w') → Keep (fun b => some b = v.ownBlock) w w' → (∀ b, some b = v'.ownBlock → some b = v.ownBlock ∨ w.heap.size ≤ b) → (v' = .slice Option.none 0 0 → v = .slice Option.none 0 0) → K v' w') :
  opW P ⟨d, .call ⟨.builtin .append, #[s, x], #[t, t]⟩, ty, ps, af, g⟩ ρ w K := by
 refine op_append (B := B) (m := N.length) (xs := L.flatten) (news := N.flatten) (n := L.length) ht hi hz hsize hby hzs hk0 hv hu hown.own (Src1.of_rowK hrow hl) ?_ (by simp [maxLen]; omega) ?_ hB ?_
 ·intro q hq
  obtain ⟨y, hy, hq⟩ := List.mem_flatten.1 hq
  exact h1 y hy q hq
 ·have : (L.length + N.length) * bytes ≤ 100000000000 * 1000 := Nat.mul_le_mul hlen hbytes
  omega
 ·intro v' w' ho hk hw
  refine h v' w' ⟨by simpa using ho, ?_, ?_⟩ (fun w0 hE hB0 => ?_) hk hw.2 (fun hv' => (hw.1.1 hv').1)
  ·intro y hy
   rcases List.mem_append.1 hy with hy | hy
   ·exact hown.len y hy
   ·exact hl y hy
  ·intro y hy
   rcases List.mem_append.1 hy with hy | hy
   ·exact hown.ones y hy
   ·exact h1 y hy
  ·exact Keep.to_ext hE rfl (fun b hb => by have := (hown.ge hb).1; omega) hk

theorem bs_nilK {k : Nat} {t e : TypeId} {z : Value} (hu : tyU P t = some (.slice e)) (hz : tyZ P e = some z) (hs : tyS P e = k) (hz1 : z.cells.size = k)
  (h : ∀ w1, Ext w w1 → w1.heap.size = w.heap.size + 1 → OwnK k w.heap.size w1 e (.slice (some ⟨w.heap.size, 0, Option.none⟩) 0 0) [] → K (.slice (some ⟨w.heap.size, 0, Option.none⟩) 0 0) w1) : bsL P t 0 [] w K .mk := by
 unfold bsL bsK
 have : bsC P t 0 [] = some (e, #[]) := by simp [bsC, hu, hz, hs, hz1, Instr.fill]
 rw [this]
 exact h _ (Ext.alloc w _) (new_size w _) ⟨⟨by simp, .inr ⟨w.heap.size, 0, #[], rfl, Nat.le_refl _, new_block w _, Nat.le_refl _, by decide, by simp, by simp⟩⟩, fun x h => (by cases h), fun x h => (by cases h)⟩

theorem sets_list : ∀ (l : List Value) (n : Nat) (cells : Array Value), n + l.length ≤ cells.size → ((l.zipIdx n).foldl (fun cs (x : Value × Nat) => cs.setIfInBounds (0 + x.2) x.1) cells).toList = cells.toList.take n ++ l ++ cells.toList.drop (n + l.length)
 | [], n, cells, _ => by simp
 | v :: l, n, cells, h => by
  simp only [List.length_cons] at h
  rw [List.zipIdx_cons, List.foldl_cons, sets_list l (n + 1) _ (by simp; omega)]
  rw [Nat.zero_add, Array.toList_setIfInBounds, List.take_set, List.drop_set_of_lt (by omega)]
  have hlt : n < cells.toList.length := by simp; omega
  rw [take_succ' hlt]
  have e1 : (cells.toList.take n).length = n := by rw [List.length_take]; omega
  rw [List.set_append_right _ _ (by omega), e1, Nat.sub_self, List.set_cons_zero]
  simp [Nat.add_assoc, Nat.add_comm 1]

theorem fill_agg {l : List Value} {k : Nat} {cells : Array Value} (hl : l.length = k) (hc : cells.size = k) :
  ∃ r, Instr.fill (fun i => some (i * k, k)) cells [(0, .agg l.toArray)] = some r ∧ r.toList = l := by
 refine ⟨(l.zipIdx 0).foldl (fun cs (x : Value × Nat) => cs.setIfInBounds (0 + x.2) x.1) cells, ?_, ?_⟩
 ·unfold Instr.fill
  have hcl : (Value.agg l.toArray).cells = l.toArray := rfl
  have c1 : (decide (l.toArray.size ≠ k) || decide (0 * k + l.toArray.size > cells.size)) = false := by simp [hl, hc]
  simp only [hcl]
  rw [if_neg (by rw [c1]; exact Bool.false_ne_true)]
  show some _ = some _
  congr 1
  rw [Nat.zero_mul]
  simp [Array.foldl_toList, ← Array.foldl_toList]
 ·rw [sets_list l 0 cells (by omega)]
  simp [hl, hc]

theorem bs_oneK {k : Nat} {t e : TypeId} {z : Value} {l : List Value} (hu : tyU P t = some (.slice e)) (hz : tyZ P e = some z) (hs : tyS P e = k) (hz1 : z.cells.size = k) (hl : l.length = k) (hk : k ≤ 1000) (h1 : ∀ q ∈ l, one q = true)
  (h : ∀ w1, Ext w w1 → w1.heap.size = w.heap.size + 1 → OwnK k w.heap.size w1 e (.slice (some ⟨w.heap.size, 0, Option.none⟩) 1 1) [l] → K (.slice (some ⟨w.heap.size, 0, Option.none⟩) 1 1) w1) : bsL P t 1 [(0, .agg l.toArray)] w K .mk := by
 unfold bsL bsK
 obtain ⟨r, hr1, hr2⟩ := fill_agg (cells := (Array.range (1 * k)).map (z.cells[· % z.cells.size]!)) hl (by simp)
 have : bsC P t 1 [(0, .agg l.toArray)] = some (e, r) := by
  unfold bsC
  rw [hu]
  simp only [hz, hs]
  have c1 : (decide (1 * k ≤ 2 ^ 24) && decide (z.cells.size = k)) = true := by rw [hz1]; simp; omega
  rw [c1, cond_true, hr1]; rfl
 rw [this]
 have hsz : r.size = k := by rw [← hl, ← hr2]; simp
 exact h _ (Ext.alloc w _) (new_size w _) ⟨⟨by simp [hl], .inr ⟨w.heap.size, 1, r, rfl, Nat.le_refl _, new_block w _, Nat.le_refl _, by decide, by simpa using hsz, by rw [hr2]; simp [← hl]⟩⟩, fun x h => (by rw [List.mem_singleton.1 h]; exact hl), fun x h => (by rw [List.mem_singleton.1 h]; exact h1)⟩

theorem ret_cell {fn : Func} {n : Nat} {σ : Sto} {R : Value → World → Prop} {e : Exit} (he : e = .normal ∨ e = .ret) {t : Tmp} {tt : TypeId} {x : Addr} {l : List Value} (hl : fn.results.toList = [.cell t tt]) (hm : fn.ntmps = n) (hv : ev n σ (.tmp t) = .pointer (some x))
  (hA : tyA P tt = true) {k : Nat} (hk : tyS P tt = k) (hc : cellsO w (some x) k = some l) (h : R (.agg l.toArray) w) : retQ P fn R e σ [] w := by
 subst hm hk
 refine ret_plain he hl (rs := [.agg l.toArray]) ?_ h
 unfold resV
 rw [show (if t < fn.ntmps then σ t else undef) = .pointer (some x) from hv]
 have : ldV P w tt x = some (.agg l.toArray) := by
  unfold ldV
  rw [hA, cond_true, show cellsV w x 0 (tyS P tt) = some l from hc]; rfl
 simp only [this, resV]

theorem alloc_two (w : World) (A B : Obj) : Ext w ((w.alloc A).alloc B) ∧ ((w.alloc A).alloc B).heap.size = w.heap.size + 2 ∧ ((w.alloc A).alloc B).heap[w.heap.size]? = some A ∧ ((w.alloc A).alloc B).heap[w.heap.size + 1]? = some B := by
 have s1 := new_size w A
 have s2 := new_size (w.alloc A) B
 have b1 := new_block w A
 have b2 := new_block (w.alloc A) B
 rw [s1] at s2 b2
 exact ⟨(Ext.alloc w A).trans (Ext.alloc _ B), s2, (RowKit.Below.heap_alloc _ B _ (by rw [s1]; omega)).trans b1, b2⟩
theorem alloc_three (w : World) (A B C : Obj) : Ext w (((w.alloc A).alloc B).alloc C) ∧ (((w.alloc A).alloc B).alloc C).heap.size = w.heap.size + 3 ∧ (((w.alloc A).alloc B).alloc C).heap[w.heap.size]? = some A ∧ (((w.alloc A).alloc B).alloc C).heap[w.heap.size + 1]? = some B ∧ (((w.alloc A).alloc B).alloc C).heap[w.heap.size + 2]? = some C := by
 obtain ⟨h1, h2, h3, h4⟩ := alloc_two w A B
 have s3 := new_size ((w.alloc A).alloc B) C
 have b3 := new_block ((w.alloc A).alloc B) C
 rw [h2] at s3 b3
 exact ⟨h1.trans (Ext.alloc _ C), s3, (RowKit.Below.heap_alloc _ C _ (by rw [h2]; omega)).trans h3, (RowKit.Below.heap_alloc _ C _ (by rw [h2]; omega)).trans h4, b3⟩

theorem eqIn_sl {t e : TypeId} (h : P.underlying t = some (.slice e)) (n : Nat) (a : Option Addr) (l c : Nat) :
  (Op.equalIn (n + 1) t (.slice a l c) (.slice Option.none 0 0)).run P w = .ok a.isNone w := by
 cases a <;> simp [Op.equalIn, underlying, program, Sem.run, h]
theorem eql_nil {t e yt : TypeId} {x y : Operand} {a : Option Addr} {n c : Nat} (ht : tyU P t = some (.slice e)) (hx : ρ x = .slice a n c) (hy : ρ y = .slice Option.none 0 0) (h : K (.bool a.isNone) w) :
  opW P ⟨d, .binOp .eql t x y yt, ty, ps, af, g⟩ ρ w K := by
 have h2 : (Op.equal t (.slice a n c) (.slice Option.none 0 0)).run P w = .ok a.isNone w := eqIn_sl (show P.underlying t = _ from ht) 9999 a n c
 have hr : (do eqGuard .eql t x y (.slice a n c) (.slice Option.none 0 0); binOp .eql t (.slice a n c) (.slice Option.none 0 0) : Sem Value).run P w = .ok (.bool a.isNone) w := by
  simp [eqGuard, binOp, h2]
 have := opR_val (P := P) (K := K) hr h
 rw [← hx, ← hy] at this
 exact this
end
end Go.Proofs.YtopbbjdembnfdaaGreat

namespace Go.Proofs.YtopbbjdembnfdaaGreat
open Go
set_option maxRecDepth 10000

def minT (a b : RecL) : RecL := { a with ttl := min a.ttl b.ttl }

theorem LeastTtl_ok (w : World) (ca cb : List Value) (a b : RecL) (ha : RecAt w ca a) (hb : RecAt w cb b) :
  Fn Tryz.prog 138 #[.agg ca.toArray, .agg cb.toArray] w (fun v w' => v = .agg (ca.set 1 (v32 (min a.ttl b.ttl))).toArray ∧ Ext w w') := by
 obtain ⟨ow, ds, rfl, a1, a2⟩ := ha.ex
 obtain ⟨ow2, ds2, rfl, b1, b2⟩ := hb.ex
 have a2' := a2
 obtain ⟨nm, nu, tx, rw', rfl, n1, n2, n3, n4⟩ := a2.ex
 obtain ⟨nm2, nu2, tx2, rw2, rfl, _⟩ := b2.ex
 refine enter Tryz.func138 Tryz.ntmps138 rfl rfl ?_
 repeat refine c_r ?_
 refine rg0 ?_
 repeat refine c_r ?_
 have hal := alloc_three w (.cells #[ow, v32 a.ttl, vi a.dat.ty, nm, nu, tx, rw'] 110 (0, 0)) (.cells #[ow2, v32 b.ttl, vi b.dat.ty, nm2, nu2, tx2, rw2] 110 (0, 0)) (.cells #[.slice Option.none 0 0, v32 0, vi 0, .slice Option.none 0 0, .slice Option.none 0 0, .slice Option.none 0 0, .slice Option.none 0 0] 110 (0, 0))
 rw [show (w.alloc (.cells #[ow, v32 a.ttl, vi a.dat.ty, nm, nu, tx, rw'] 110 (0, 0))).heap.size = w.heap.size + 1 from new_size _ _, show ((w.alloc (.cells #[ow, v32 a.ttl, vi a.dat.ty, nm, nu, tx, rw'] 110 (0, 0))).alloc (.cells #[ow2, v32 b.ttl, vi b.dat.ty, nm2, nu2, tx2, rw2] 110 (0, 0))).heap.size = w.heap.size + 2 from (alloc_two w _ _).2.1]
 revert hal
 generalize ((w.alloc (.cells #[ow, v32 a.ttl, vi a.dat.ty, nm, nu, tx, rw'] 110 (0, 0))).alloc (.cells #[ow2, v32 b.ttl, vi b.dat.ty, nm2, nu2, tx2, rw2] 110 (0, 0))).alloc (.cells #[.slice Option.none 0 0, v32 0, vi 0, .slice Option.none 0 0, .slice Option.none 0 0, .slice Option.none 0 0, .slice Option.none 0 0] 110 (0, 0)) = w1
 rintro ⟨hE, hs, hA, hB, hC⟩
 have p1 : cellO w1 (some ⟨w.heap.size, 1, Option.none⟩) = some (v32 a.ttl) := cellO_at hA rfl
 have q1 : cellO w1 (some ⟨w.heap.size + 1, 1, Option.none⟩) = some (v32 b.ttl) := cellO_at hB rfl
 refine rq ?_; intro gd K hgd hK
 try simp (disch := first | omega | assumption | rfl) only [↓reduceIte, go_sem, Nat.reduceLT, Nat.reduceEqDiff, Nat.reduceSub, p1, q1, Nat.add_zero]
 refine op_min (by rfl) (by rfl) ?_
 try simp (disch := first | omega | assumption | rfl) only [↓reduceIte, go_sem, Nat.reduceLT, Nat.reduceEqDiff, Nat.reduceSub]
 refine st_one rfl rfl rfl hA (by simp) (by simp) ?_
 intro w2 hs2 hb2 hk2
 try simp (disch := first | omega | assumption | rfl) only [↓reduceIte, go_sem, Nat.reduceLT, Nat.reduceEqDiff, Nat.reduceSub]
 refine hK _ _ ?_; clear hK hgd; clear K; try clear gd
 repeat refine c_r ?_
 have hE2 : Ext w w2 := Keep.to_ext hE rfl (fun i hi => by omega) hk2
 have r7 : cellsO w2 (some ⟨w.heap.size, 0, Option.none⟩) 7 = some [ow, v32 (min a.ttl b.ttl), vi a.dat.ty, nm, nu, tx, rw'] := cellsO_block hb2 (Nat.le_refl 7)
 have hC2 := (hk2.block _ (Array.getElem?_eq_some_iff.1 hC).1 (by omega)).trans hC
 refine rq ?_; intro gd K hgd hK
 try simp (disch := first | omega | assumption | rfl) only [↓reduceIte, go_sem, Nat.reduceLT, Nat.reduceEqDiff, Nat.reduceSub, r7]
 have hSD : SD 7 w2 (w.heap.size + 2) 110 1 [[.slice Option.none 0 0, v32 0, vi 0, .slice Option.none 0 0, .slice Option.none 0 0, .slice Option.none 0 0, .slice Option.none 0 0]] :=
  ⟨⟨_, [], hC2, rfl, rfl⟩, fun x h => (by rw [List.mem_singleton.1 h]; rfl), fun x h v hv => (by rw [List.mem_singleton.1 h] at hv; simp at hv; rcases hv with rfl | rfl | rfl | rfl <;> rfl)⟩
 have hone : ∀ q ∈ [ow, v32 (min a.ttl b.ttl), vi a.dat.ty, nm, nu, tx, rw'], one q = true := by
  obtain ⟨o1, o2, rfl, _⟩ := a1
  obtain ⟨_, ⟨o3, o4, rfl, _⟩, _⟩ := n1
  obtain ⟨o5, o6, rfl, _⟩ := n2
  obtain ⟨o7, o8, rfl, _⟩ := n3
  obtain ⟨o9, o10, rfl, _⟩ := n4
  intro q hq
  simp at hq
  rcases hq with rfl | rfl | rfl | rfl | rfl | rfl | rfl <;> rfl
 refine SD.set (P := Tryz.prog) (t := 110) hSD (j := 0) (by simp) (x := [ow, v32 (min a.ttl b.ttl), vi a.dat.ty, nm, nu, tx, rw']) rfl hone rfl rfl ?_
 intro w3 hs3 hL3 hk3
 try simp (disch := first | omega | assumption | rfl) only [↓reduceIte, go_sem, Nat.reduceLT, Nat.reduceEqDiff, Nat.reduceSub]
 refine hK _ _ ?_; clear hK hgd; clear K; try clear gd
 repeat refine c_r ?_
 have hE3 : Ext w w3 := Keep.to_ext hE2 rfl (fun i hi => by omega) hk3
 have r9 := hL3.get (j := 0) (by simp)
 refine ret_cell (by simp) rfl Tryz.ntmps138 (vq0) rfl rfl r9 ?_
 exact ⟨rfl, hE3⟩

theorem RecAt.minT {w : World} {ca : List Value} {a b : RecL} (h : RecAt w ca a) : RecAt w (ca.set 1 (v32 (min a.ttl b.ttl))) (minT a b) := by
 obtain ⟨ow, ds, rfl, h1, h2⟩ := h.ex
 exact ⟨ow, ds, rfl, h1, h2⟩
end Go.Proofs.YtopbbjdembnfdaaGreat

namespace Go.Proofs.YtopbbjdembnfdaaGreat
open Go

section
variable {α : Type}

theorem set_mid (A B : List α) (x y : α) : (A ++ x :: B).set A.length y = A ++ y :: B := by
 rw [List.set_append_right _ _ (Nat.le_refl _), Nat.sub_self, List.set_cons_zero]
theorem get_mid (A B : List α) (x : α) : (A ++ x :: B)[A.length]? = some x := by simp

theorem swap_two (A M B : List α) (x y : α) {i j : Nat} (hi : i = A.length) (hj : j = A.length + 1 + M.length) : ((A ++ x :: M ++ y :: B).set i y).set j x = A ++ y :: M ++ x :: B := by
 subst hi hj
 have e1 : (A ++ x :: M ++ y :: B).set A.length y = A ++ y :: M ++ y :: B := by
  have := set_mid A (M ++ y :: B) x y
  simpa using this
 rw [e1]
 have := set_mid (A ++ y :: M) B y x
 rwa [show (A ++ y :: M).length = A.length + 1 + M.length from by simp; omega] at this

def swapAt (A X M Y B : List α) (i : Nat) : List α := A ++ (Y.take i ++ X.drop i) ++ M ++ (X.take i ++ Y.drop i) ++ B

theorem swapAt_step {A X M Y B : List α} {i : Nat} (hX : i < X.length) (hY : i < Y.length) :
  ((swapAt A X M Y B i).set (A.length + i) Y[i]).set (A.length + X.length + M.length + i) X[i] = swapAt A X M Y B (i + 1) ∧
  (swapAt A X M Y B i)[A.length + i]? = some X[i] ∧ (swapAt A X M Y B i)[A.length + X.length + M.length + i]? = some Y[i] := by
 have e0 : swapAt A X M Y B i = (A ++ Y.take i) ++ X[i] :: (X.drop (i + 1) ++ M ++ X.take i) ++ Y[i] :: (Y.drop (i + 1) ++ B) := by
  unfold swapAt
  rw [List.drop_eq_getElem_cons hX, List.drop_eq_getElem_cons hY]
  simp only [List.append_assoc, List.cons_append]
 have l1 : (A ++ Y.take i).length = A.length + i := by simp; omega
 have l2 : (X.drop (i + 1) ++ M ++ X.take i).length = X.length - (i + 1) + M.length + i := by simp; omega
 refine ⟨?_, ?_, ?_⟩
 ·rw [e0, swap_two (A ++ Y.take i) _ _ X[i] Y[i] (by omega) (by omega)]
  unfold swapAt
  rw [take_succ' hX, take_succ' hY]
  simp only [List.append_assoc, List.cons_append, List.nil_append]
 ·rw [e0, ← l1, List.append_assoc]
  have := get_mid (A ++ Y.take i) (X.drop (i + 1) ++ M ++ X.take i ++ Y[i] :: (Y.drop (i + 1) ++ B)) X[i]
  simpa using this
 ·rw [e0]
  have := get_mid (A ++ Y.take i ++ X[i] :: (X.drop (i + 1) ++ M ++ X.take i)) (Y.drop (i + 1) ++ B) Y[i]
  rw [show (A ++ Y.take i ++ X[i] :: (X.drop (i + 1) ++ M ++ X.take i)).length = A.length + X.length + M.length + i from by rw [List.length_append, List.length_cons, l1, l2]; omega] at this
  exact this

theorem swapAt_end {A X M Y B : List α} {n : Nat} (hX : X.length = n) (hY : Y.length = n) : swapAt A X M Y B n = A ++ Y ++ M ++ X ++ B := by
 unfold swapAt
 rw [List.take_of_length_le (by omega), List.take_of_length_le (by omega), List.drop_of_length_le (by omega), List.drop_of_length_le (by omega)]
 simp
theorem swapAt_start (A X M Y B : List α) : swapAt A X M Y B 0 = A ++ X ++ M ++ Y ++ B := by simp [swapAt]
theorem swapAt_len {A X M Y B : List α} {i : Nat} (hi : i ≤ X.length) (h : X.length = Y.length) : (swapAt A X M Y B i).length = (A ++ X ++ M ++ Y ++ B).length := by
 simp [swapAt]; omega
end
end Go.Proofs.YtopbbjdembnfdaaGreat

namespace Go.Proofs.YtopbbjdembnfdaaGreat
open Go

structure Older {α : Type} (cf : α → α → Int) (lt older : α → α → Prop) : Prop where
 trans : ∀ {a b c}, lt a b → lt b c → lt a c
 less : ∀ {x y}, older x y → cf y x < 0 → lt y x
 more : ∀ {x y}, older x y → ¬ cf y x < 0 → lt x y

section
variable {α : Type} {lt : α → α → Prop}

theorem pw_get {l : List α} (h : l.Pairwise lt) {i j : Nat} {x y : α} (hx : l[i]? = some x) (hy : l[j]? = some y) (hij : i < j) : lt x y := by
 obtain ⟨h1, rfl⟩ := List.getElem?_eq_some_iff.1 hx
 obtain ⟨h2, rfl⟩ := List.getElem?_eq_some_iff.1 hy
 exact List.pairwise_iff_getElem.1 h i j h1 h2 hij

structure Cut (lt : α → α → Prop) (x : α) (Y : List α) (s e : Nat) : Prop where
 lo : ∀ i y, i < s → Y[i]? = some y → lt y x
 hi : ∀ i y, e ≤ i → Y[i]? = some y → lt x y

theorem Cut.start (x : α) (Y : List α) : Cut lt x Y 0 Y.length :=
 ⟨fun i y h => absurd h (Nat.not_lt_zero _), fun i y h hy => by rw [List.getElem?_eq_none h] at hy; cases hy⟩
theorem Cut.up {x : α} {Y : List α} {s e h : Nat} {y : α} (ht : ∀ {a b c}, lt a b → lt b c → lt a c) (hY : Y.Pairwise lt) (hc : Cut lt x Y s e) (hy : Y[h]? = some y) (hl : lt y x) : Cut lt x Y (h + 1) e :=
 ⟨fun i z hi hz => by
  by_cases hih : i = h
  ·subst hih; rw [hy] at hz; cases hz; exact hl
  ·exact ht (pw_get hY hz hy (by omega)) hl, hc.hi⟩
theorem Cut.down {x : α} {Y : List α} {s e h : Nat} {y : α} (ht : ∀ {a b c}, lt a b → lt b c → lt a c) (hY : Y.Pairwise lt) (hc : Cut lt x Y s e) (hy : Y[h]? = some y) (hl : lt x y) : Cut lt x Y s h :=
 ⟨hc.lo, fun i z hi hz => by
  by_cases hih : i = h
  ·subst hih; rw [hy] at hz; cases hz; exact hl
  ·exact ht hl (pw_get hY hy hz (by omega))⟩
theorem Cut.sorted {x : α} {Y : List α} {s : Nat} (ht : ∀ {a b c}, lt a b → lt b c → lt a c) (hY : Y.Pairwise lt) (hc : Cut lt x Y s s) : (Y.take s ++ x :: Y.drop s).Pairwise lt := by
 rw [List.pairwise_append]
 have h1 : ∀ y ∈ Y.take s, lt y x := fun y hy => by
  obtain ⟨i, hi, rfl⟩ := List.getElem_of_mem hy
  have hi' := hi
  rw [List.length_take] at hi'
  refine hc.lo i _ (by omega) ?_
  rw [List.getElem_take, List.getElem?_eq_getElem]
 have h2 : ∀ y ∈ Y.drop s, lt x y := fun y hy => by
  obtain ⟨i, hi, rfl⟩ := List.getElem_of_mem hy
  have hi' := hi
  rw [List.length_drop] at hi'
  refine hc.hi (s + i) _ (by omega) ?_
  rw [List.getElem_drop, List.getElem?_eq_getElem]
 refine ⟨hY.sublist (List.take_sublist _ _), List.pairwise_cons.2 ⟨h2, hY.sublist (List.drop_sublist _ _)⟩, fun y hy z hz => ?_⟩
 rcases List.mem_cons.1 hz with rfl | hz
 ·exact h1 y hy
 ·exact ht (h1 y hy) (h2 z hz)

theorem cross {X Y : List α} {s t : Nat} (ht : ∀ {a b c}, lt a b → lt b c → lt a c) (hX : X.Pairwise lt) (hY : Y.Pairwise lt)
  (h : s = 0 ∨ t = Y.length ∨ ∃ x y, X[s - 1]? = some x ∧ Y[t]? = some y ∧ lt x y) : ∀ x ∈ X.take s, ∀ y ∈ Y.drop t, lt x y := by
 intro x hx y hy
 obtain ⟨i, hi, rfl⟩ := List.getElem_of_mem hx
 obtain ⟨j, hj, rfl⟩ := List.getElem_of_mem hy
 rw [List.length_take] at hi
 rw [List.length_drop] at hj
 rcases h with h | h | ⟨u, v, hu, hv, huv⟩
 ·omega
 ·omega
 ·rw [List.getElem_take, List.getElem_drop]
  have gx : X[i]? = some X[i] := List.getElem?_eq_getElem (by omega)
  have gy : Y[t + j]? = some Y[t + j] := List.getElem?_eq_getElem (by omega)
  have h1 : lt X[i] v := by
   by_cases hi1 : i = s - 1
   ·subst hi1; rw [hu] at gx; cases gx; exact huv
   ·exact ht (pw_get hX gx hu (by omega)) huv
  rcases Nat.eq_zero_or_pos j with hj0 | hj0
  ·have gv : Y[t + j]? = some v := by rw [hj0]; exact hv
   rw [gy] at gv
   rw [Option.some.inj gv]; exact h1
  ·exact ht h1 (pw_get hY hv gy (by omega))

theorem sorted_four {X1 X2 Y1 Y2 Z1 Z2 : List α} (hX : (X1 ++ X2).Pairwise lt) (hY : (Y1 ++ Y2).Pairwise lt) (c1 : ∀ x ∈ X1, ∀ y ∈ Y2, lt x y) (c2 : ∀ y ∈ Y1, ∀ x ∈ X2, lt y x)
  (p1 : Z1.Perm (X1 ++ Y1)) (p2 : Z2.Perm (X2 ++ Y2)) (s1 : Z1.Pairwise lt) (s2 : Z2.Pairwise lt) : (Z1 ++ Z2).Pairwise lt ∧ (Z1 ++ Z2).Perm ((X1 ++ X2) ++ (Y1 ++ Y2)) := by
 rw [List.pairwise_append] at hX hY
 constructor
 ·rw [List.pairwise_append]
  refine ⟨s1, s2, fun a ha b hb => ?_⟩
  rcases List.mem_append.1 (p1.mem_iff.1 ha) with ha | ha
  ·rcases List.mem_append.1 (p2.mem_iff.1 hb) with hb | hb
   ·exact hX.2.2 a ha b hb
   ·exact c1 a ha b hb
  ·rcases List.mem_append.1 (p2.mem_iff.1 hb) with hb | hb
   ·exact c2 a ha b hb
   ·exact hY.2.2 a ha b hb
 ·refine (p1.append p2).trans ?_
  rw [List.append_assoc, List.append_assoc]
  refine List.Perm.append_left X1 ?_
  rw [← List.append_assoc, ← List.append_assoc]
  exact List.Perm.append_right Y2 List.perm_append_comm
end
end Go.Proofs.YtopbbjdembnfdaaGreat
