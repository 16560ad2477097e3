/-
  What an operation comes to, by its kind and the values of its operands; a row of operations run so.
  Conditions: none; these are lemmas over any program.
-/
import Derived.Test.YtciadbhnodgpgaaK1
import Derived.Laws.Strings
import Derived.Laws.Entries
import Derived.Laws.Slices
set_option linter.unusedVariables false
set_option linter.unusedSimpArgs false
set_option linter.defProp false
namespace Go.Proofs.Ytciadbhnodgpgaa
open Go

abbrev vs (l : List UInt8) : Value := .string ⟨l.toArray⟩
abbrev vi (n : Int) : Value := .int .i64 n

def tyU (P : Program) (t : TypeId) : Option TypeDesc := P.underlying t
def tyS (P : Program) (t : TypeId) : Nat := ((P.info? t).map (·.size)).getD 0
def tyA (P : Program) (t : TypeId) : Bool := match P.underlying t with | some (.struct _) | some (.array _ _) => true | _ => false

def bytesLt (l m : List UInt8) : Bool := Op.bytesLess l m

/-- the value of a binary operation, where it is plain -/
def binV (P : Program) (op : BinOp) (t : TypeId) : Value → Value → Option Value
  | .int k a, .int k' b => if k = k' then
      match op with
      | .add => some (.int k (k.wrap (a + b)))
      | .sub => some (.int k (k.wrap (a - b)))
      | .mul => some (.int k (k.wrap (a * b)))
      | .lss => some (.bool (decide (a < b)))
      | .leq => some (.bool (decide (a ≤ b)))
      | .gtr => some (.bool (decide (b < a)))
      | .geq => some (.bool (decide (b ≤ a)))
      | .eql => some (.bool (decide (a = b)))
      | .neq => some (.bool (!decide (a = b)))
      | .quo => if b = 0 then Option.none else some (.int k (k.wrap (a.tdiv b)))
      | .rem => if b = 0 then Option.none else some (.int k (a.tmod b))
      | _ => Option.none
    else Option.none
  | .string s, .string u =>
      match op with
      | .add => if ((s.size + u.size : Nat) : Int) > IntKind.i64.max then Option.none else some (.string (s ++ u))
      | .eql => some (.bool (decide (s = u)))
      | .neq => some (.bool (!decide (s = u)))
      | .lss => some (.bool (bytesLt s.data.toList u.data.toList))
      | .gtr => some (.bool (!(bytesLt s.data.toList u.data.toList || decide (s = u))))
      | _ => Option.none
  | .bool a, .bool b => match op, tyU P t with
      | .eql, some .bool => some (.bool (a == b))
      | .neq, some .bool => some (.bool (!(a == b)))
      | _, _ => Option.none
  | .pointer a, .pointer Option.none => match op, tyU P t with
      | .eql, some (.pointer _) => some (.bool a.isNone)
      | .neq, some (.pointer _) => some (.bool (!a.isNone))
      | _, _ => Option.none
  | _, _ => Option.none

theorem str_eq_iff (s u : ByteArray) : (s.toList == u.toList) = decide (s = u) := by
  by_cases h : s = u
  · subst h; simp
  · have : ¬ s.toList = u.toList := fun e => h (by
      rw [ByteArray.toList_eq, ByteArray.toList_eq] at e
      exact ByteArray.ext (Array.toList_inj.1 e))
    simp [h, this]

theorem beq_dec (a b : Int) : (a == b) = decide (a = b) := by by_cases h : a = b <;> simp [h]

theorem eqIn_bool {P : Program} {t : TypeId} (h : P.underlying t = some .bool) (d : Nat) (a b : Bool) (w : World) :
    (Op.equalIn (d + 1) t (.bool a) (.bool b)).run P w = .ok (a == b) w := by
  simp [Op.equalIn, underlying, program, Sem.run, h]
theorem eqIn_ptr {P : Program} {t e : TypeId} (h : P.underlying t = some (.pointer e)) (d : Nat) (a : Option Addr) (w : World) :
    (Op.equalIn (d + 1) t (.pointer a) (.pointer Option.none)).run P w = .ok a.isNone w := by
  cases a <;> simp [Op.equalIn, underlying, program, Sem.run, h]
theorem eq_bool {P : Program} {t : TypeId} (h : P.underlying t = some .bool) (a b : Bool) (w : World) :
    (Op.equal t (.bool a) (.bool b)).run P w = .ok (a == b) w := eqIn_bool h 9999 a b w
theorem eq_ptr {P : Program} {t e : TypeId} (h : P.underlying t = some (.pointer e)) (a : Option Addr) (w : World) :
    (Op.equal t (.pointer a) (.pointer Option.none)).run P w = .ok a.isNone w := eqIn_ptr h 9999 a w

theorem binV_run {P : Program} {op : BinOp} {t : TypeId} {x y : Operand} {a b v : Value} {w : World} (h : binV P op t a b = some v) :
    (do eqGuard op t x y a b; binOp op t a b : Sem Value).run P w = .ok v w := by
  unfold binV at h
  split at h
  · rename_i k m k' m'
    split at h
    · rename_i hk
      subst hk
      split at h <;> first
        | (cases h; simp [eqGuard, binOp, Op.intArith, Op.intCmp, Sem.run, beq_dec]; done)
        | (cases h; simp [eqGuard, binOp, Op.intArith, Op.intCmp, Sem.run, beq_dec, bne]; done)
        | (split at h
           · cases h
           · rename_i hb; cases h; simp [eqGuard, binOp, Op.intDiv, hb, Sem.run])
        | cases h
    · cases h
  · rename_i s u
    split at h
    · split at h
      · cases h
      · rename_i hb; cases h
        have hb' : ((s.size : Int) + (u.size : Int)) ≤ 9223372036854775807 := by
          have : IntKind.i64.max = 9223372036854775807 := by decide
          rw [this] at hb; push_cast at hb; omega
        simp [eqGuard, binOp, Op.stringOp, Sem.run, hb']
    all_goals first
      | (cases h; simp [eqGuard, binOp, Op.stringOp, Sem.run, str_eq_iff, bytesLt, ByteArray.toList_eq]; done)
      | (cases h; simp [eqGuard, binOp, Op.stringOp, Sem.run]; rw [str_eq_iff]; done)
      | (cases h; rw [← str_eq_iff, bytesLt, ← ByteArray.toList_eq, ← ByteArray.toList_eq]; rfl)
      | cases h
  · split at h
    · rename_i hu; cases h; simp [eqGuard, binOp, eq_bool (show P.underlying t = _ from hu)]
    · rename_i hu; cases h; simp [eqGuard, binOp, eq_bool (show P.underlying t = _ from hu)]
    · cases h
  · split at h
    · rename_i hu; cases h; simp [eqGuard, binOp, eq_ptr (show P.underlying t = _ from hu)]
    · rename_i hu; cases h; simp [eqGuard, binOp, eq_ptr (show P.underlying t = _ from hu)]
    · cases h
  · cases h

def unV (op : UnOp) : Value → Option Value
  | .bool b => match op with | .not => some (.bool (!b)) | _ => Option.none
  | .int k n => match op with | .neg => some (.int k (k.wrap (0 - n))) | _ => Option.none
  | _ => Option.none

theorem unV_run {P : Program} {op : UnOp} {a v : Value} {w : World} (h : unV op a = some v) : (Op.unary op a).run P w = .ok v w := by
  unfold unV at h
  split at h
  · split at h <;> cases h; simp [Op.unary, Op.intArith, Sem.run]
  · split at h <;> cases h; simp [Op.unary, Op.intArith, Sem.run]
  · cases h

/-- the cells of a variable, read -/
def cellsV (w : World) (a : Addr) : Nat → Nat → Option (List Value)
  | _, 0 => some []
  | i, n + 1 => match w.cell? (a.add i), cellsV w a (i + 1) n with
    | some v, some l => some (v :: l)
    | _, _ => Option.none

def ldV (P : Program) (w : World) (t : TypeId) (a : Addr) : Option Value :=
  bif tyA P t then (cellsV w a 0 (tyS P t)).map fun l => .agg l.toArray else (bif (tyU P t).isSome then w.cell? a else Option.none)

theorem loadCellsFrom_run {P : Program} {w : World} {a : Addr} : ∀ (n i : Nat) (acc : Array Value) (l : List Value), cellsV w a i n = some l →
    (loadCellsFrom a i n acc).run P w = .ok (acc ++ l.toArray) w
  | 0, i, acc, l, h => by simp [cellsV] at h; subst h; simp [loadCellsFrom, Sem.run]
  | n + 1, i, acc, l, h => by
    unfold cellsV at h
    split at h
    · rename_i v l' h1 h2
      cases h
      have := loadCellsFrom_run (P := P) n (i + 1) (acc.push v) l' h2
      simp [loadCellsFrom, load, Sem.run, h1, this]
    · cases h

theorem ldV_run {P : Program} {w : World} {t : TypeId} {a : Addr} {v : Value} (h : ldV P w t a = some v) : (loadVar t a).run P w = .ok v w := by
  unfold ldV at h
  cases hA : tyA P t with
  | true =>
    rw [hA] at h
    simp only [cond_true, Option.map_eq_some_iff] at h
    obtain ⟨l, hl, rfl⟩ := h
    have hu : (isAgg t).run P w = .ok true w := by
      unfold tyA at hA
      split at hA
      · rename_i hd; simp [isAgg, underlying, program, Sem.run, hd]
      · rename_i hd; simp [isAgg, underlying, program, Sem.run, hd]
      · cases hA
    have hs : ∃ i, P.info? t = some i ∧ i.size = tyS P t := by
      cases hi : P.info? t with
      | some i => exact ⟨i, rfl, by simp [tyS, hi]⟩
      | none => simp [tyA, Program.underlying, hi] at hA
    obtain ⟨i, hi, hs⟩ := hs
    have := loadCellsFrom_run (P := P) (tyS P t) 0 #[] l hl
    simp [loadVar, hu, loadCells, sizeOf, typeInfo, program, Sem.run, hi, hs, this]
  | false =>
    rw [hA] at h
    simp only [cond_false] at h
    have hsome : (tyU P t).isSome = true := by
      cases hs : (tyU P t).isSome with
      | true => rfl
      | false => rw [hs] at h; cases h
    rw [hsome] at h
    simp only [cond_true] at h
    have hu : (isAgg t).run P w = .ok false w := by
      obtain ⟨d, hd⟩ := Option.isSome_iff_exists.1 hsome
      have hd' : P.underlying t = some d := hd
      unfold tyA at hA
      rw [hd'] at hA
      cases d <;> first | (cases hA; done) | simp [isAgg, underlying, program, Sem.run, hd']
    simp [loadVar, hu, load, Sem.run, h]

/-- a call's target, where it is a function with a body -/
def callable (P : Program) (f : FuncId) : Bool :=
  match P.funcs[f]? with
  | some fn => fn.body.isSome && !(fn.name == "runtime.NumGoroutine")
  | Option.none => false

/-- a call and what becomes of it -/
def Fn (P : Program) (f : FuncId) (args : Array Value) (w : World) (R : Value → World → Prop) : Prop :=
  CallsIn (fw Option.none) 0 P f args w (fun e w' => ∃ v, e = .returned v ∧ R v w')

theorem Fn.mono {P : Program} {f : FuncId} {args : Array Value} {w : World} {R R' : Value → World → Prop} (h : Fn P f args w R) (hr : ∀ v w', R v w' → R' v w') :
    Fn P f args w R' := CallsIn.mono h fun _ _ ⟨v, he, hk⟩ => ⟨v, he, hr _ _ hk⟩

theorem run_callFunc {P : Program} {f : FuncId} {args : Array Value} {w : World} (h : callable P f = true) : (callFunc f args).run P w = .ok (.enter f args) w := by
  unfold callable at h
  split at h
  · rename_i fn hf
    simp only [Bool.and_eq_true, Bool.not_eq_true', Option.isSome_iff_exists] at h
    obtain ⟨⟨c, hb⟩, hn⟩ := h
    have hn' : ¬ fn.name = "runtime.NumGoroutine" := by simpa using hn
    simp [callFunc, program, Sem.run, hf, hb, hn']
  · cases h

/-- what a call of a value comes to -/
def callV (P : Program) (f : Value) (args : Array Value) (w : World) (K : Value → World → Prop) : Prop :=
  match f with
  | .func (.func f) first captured => callable P f = true ∧ Fn P f (first ++ args ++ captured) w K
  | .func (.yield l) first captured => opR P K ((Instr.yield l (first ++ args)).run P w)
  | _ => False

theorem callV_run {P : Program} {f : Operand} {args : Array Operand} {ts : Array TypeId} {ty : TypeId} {ρ : Operand → Value} {w : World} {K : Value → World → Prop}
    (h : callV P (ρ f) (args.map ρ) w K) : opR P K ((do let d ← resolve ρ { callee := .value f, args, argTypes := ts } ty; invoke d.target d.args : Sem Next).run P w) := by
  unfold callV at h
  split at h
  · rename_i g first captured hf
    obtain ⟨hc, h⟩ := h
    simp only [resolve, Sem.run_bind, hf, Deferred.ofValue]
    simp only [Sem.run_pure, Result.andThen_ok, invoke, run_callFunc hc]
    exact h
  · rename_i l first captured hf
    simp only [resolve, Sem.run_bind, hf, Deferred.ofValue]
    simp only [Sem.run_pure, Result.andThen_ok, invoke]
    exact h
  · exact h.elim

def lenV (P : Program) (t : TypeId) (v : Value) : Option Value :=
  match tyU P t, v with
  | some .string, .string s => some (vi s.size)
  | some (.slice _), .slice _ n _ => some (vi n)
  | some (.array n _), _ => some (vi n)
  | _, _ => Option.none

theorem lenV_run {P : Program} {t : TypeId} {v u : Value} {w : World} (h : lenV P t v = some u) (ts : Array TypeId) (ty : TypeId) (hts : ts[0]? = some t) :
    (Builtin.len_ ts ty #[v]).run P w = .ok u w := by
  unfold lenV at h
  split at h <;> first
    | (rename_i hu _; cases h; simp [Builtin.len_, hts, underlying, program, Sem.run, show P.underlying t = _ from hu, goInt]; done)
    | (rename_i hu; cases h; simp [Builtin.len_, hts, underlying, program, Sem.run, show P.underlying t = _ from hu, goInt]; done)
    | cases h

/-- an address, so many cells on -/
def adr (a : Option Addr) (k : Nat) : Option Addr := a.map (·.add k)

theorem addr_add (b o n : Nat) : (⟨b, o, Option.none⟩ : Addr).add n = ⟨b, o + n, Option.none⟩ := by
  unfold Addr.add; split
  · rename_i h; subst h; rfl
  · rfl
theorem addr_add_add (a : Addr) (j k : Nat) : (a.add j).add k = a.add (j + k) := by
  unfold Addr.add
  by_cases h1 : j = 0 <;> by_cases h2 : k = 0 <;> simp [h1, h2, Nat.add_assoc]
theorem adr_adr (a : Option Addr) (j k : Nat) : adr (adr a j) k = adr a (j + k) := by
  cases a <;> simp [adr, addr_add_add]
theorem adr_some (b o k : Nat) : adr (some ⟨b, o, Option.none⟩) k = some ⟨b, o + k, Option.none⟩ := by simp [adr, addr_add]
theorem adr_isSome (a : Option Addr) (k : Nat) : (adr a k).isSome = a.isSome := by cases a <;> rfl
theorem adr_zero (a : Option Addr) : adr a 0 = a := by cases a <;> simp [adr, Addr.add]

/-- the address of an element -/
def ixA (P : Program) (t : TypeId) (x i : Value) : Option Value :=
  match tyU P t, x, i with
  | some (.slice e), .slice a n _, .int _ j => if 0 ≤ j ∧ j < n ∧ a.isSome = true then (bif (P.info? e).isSome then some (.pointer (adr a (j.toNat * tyS P e))) else Option.none) else Option.none
  | some (.array n e), .pointer a, .int _ j => if 0 ≤ j ∧ j < n ∧ a.isSome = true then (bif (P.info? e).isSome then some (.pointer (adr a (j.toNat * tyS P e))) else Option.none) else Option.none
  | _, _, _ => Option.none

theorem ixA_run {P : Program} {t : TypeId} {x i u : Value} {w : World} (h : ixA P t x i = some u) : (Instr.indexAt t x i).run P w = .ok u w := by
  unfold ixA at h
  split at h
  · rename_i e a n c k j hu
    split at h
    · rename_i hj
      obtain ⟨h1, h2, h3⟩ := hj
      obtain ⟨a, rfl⟩ := Option.isSome_iff_exists.1 h3
      cases hi : P.info? e with
      | none => rw [hi] at h; cases h
      | some inf =>
        rw [hi] at h
        simp only [Option.isSome_some, cond_true, Option.some.injEq] at h
        subst h
        simp [Instr.indexAt, asIntOf, underlying, program, Sem.run, show P.underlying t = _ from hu, h1, h2, sizeOf, typeInfo, hi, adr, tyS]
    · cases h
  · rename_i n e a k j hu
    split at h
    · rename_i hj
      obtain ⟨h1, h2, h3⟩ := hj
      obtain ⟨a, rfl⟩ := Option.isSome_iff_exists.1 h3
      cases hi : P.info? e with
      | none => rw [hi] at h; cases h
      | some inf =>
        rw [hi] at h
        simp only [Option.isSome_some, cond_true, Option.some.injEq] at h
        subst h
        simp [Instr.indexAt, Instr.sureAddr, asIntOf, underlying, program, Sem.run, show P.underlying t = _ from hu, h1, h2, sizeOf, typeInfo, hi, adr, tyS]
    · cases h
  · cases h

/-- an octet of a string -/
def ixS (P : Program) (t : TypeId) (x i : Value) : Option Value :=
  match tyU P t, x, i with
  | some .string, .string s, .int _ j => if 0 ≤ j then (s.data.toList[j.toNat]?).map (fun c => .int .u8 c.toNat) else Option.none
  | _, _, _ => Option.none

theorem ixS_run {P : Program} {t : TypeId} {x i u : Value} {w : World} (h : ixS P t x i = some u) : (Instr.index t x i).run P w = .ok u w := by
  unfold ixS at h
  split at h
  · rename_i s k j hu
    split at h
    · rename_i hj
      simp only [Option.map_eq_some_iff] at h
      obtain ⟨c, hc, rfl⟩ := h
      have : s[j.toNat]? = some c := by
        rw [Array.getElem?_toList] at hc
        obtain ⟨h1, h2⟩ := Array.getElem?_eq_some_iff.1 hc
        have h3 : j.toNat < s.size := h1
        rw [getElem?_pos s j.toNat h3]
        exact congrArg some h2
      simp [Instr.index, asIntOf, underlying, program, Sem.run, show P.underlying t = _ from hu, hj, this]
    · cases h
  · cases h

def slB (lo : Option Value) : Option Nat :=
  match lo with
  | Option.none => some 0
  | some (.int _ i) => if 0 ≤ i then some i.toNat else Option.none
  | _ => Option.none
def slH (hi : Option Value) (n : Nat) : Option Nat :=
  match hi with
  | Option.none => some n
  | some (.int _ i) => if 0 ≤ i then some i.toNat else Option.none
  | _ => Option.none

/-- a cut of a string or a slice -/
def slV (P : Program) (t : TypeId) (x : Value) (lo hi mx : Option Value) : Option Value :=
  match tyU P t, x, mx with
  | some .string, .string s, Option.none => match slB lo, slH hi s.size with
    | some l, some h => if l ≤ h ∧ h ≤ s.size then some (.string (s.extract l h)) else Option.none
    | _, _ => Option.none
  | some (.slice e), .slice a n c, _ => match slB lo, slH hi n, slH mx c with
    | some l, some h, some m => if l ≤ h ∧ h ≤ m ∧ m ≤ c ∧ (mx.isSome = true → hi.isSome = true) then
        (bif (P.info? e).isSome then some (.slice (if m = l then a else adr a (l * tyS P e)) (h - l) (m - l)) else Option.none)
      else Option.none
    | _, _, _ => Option.none
  | _, _, _ => Option.none

theorem sliceBound_run {P : Program} {w : World} {k : IntKind} {i : Int} {y : Nat} {code : BoundsCode} (h0 : 0 ≤ i) (h1 : i.toNat ≤ y) :
    (Instr.sliceBound (.int k i) y code).run P w = .ok i.toNat w := by
  have : i ≤ (y : Int) := by omega
  simp [Instr.sliceBound, asIntOf, Sem.run, h0, this]

theorem slB_run {P : Program} {w : World} {lo : Option Value} {l y : Nat} {code : BoundsCode} (hl : slB lo = some l) (h : l ≤ y) :
    (match lo with | some v => Instr.sliceBound v y code | Option.none => pure 0 : Sem Nat).run P w = .ok l w := by
  cases lo with
  | none => simp only [slB, Option.some.injEq] at hl; subst hl; rfl
  | some lv =>
    cases lv <;> simp only [slB] at hl <;> try (cases hl; done)
    split at hl
    · rename_i h0; cases hl; exact sliceBound_run h0 h
    · cases hl

theorem slH_run {P : Program} {w : World} {hi : Option Value} {n h y : Nat} {code : BoundsCode} (hh : slH hi n = some h) (hle : h ≤ y) :
    (match hi with | some v => Instr.sliceBound v y code | Option.none => pure n : Sem Nat).run P w = .ok h w := by
  cases hi with
  | none => simp only [slH, Option.some.injEq] at hh; subst hh; rfl
  | some lv =>
    cases lv <;> simp only [slH] at hh <;> try (cases hh; done)
    split at hh
    · rename_i h0; cases hh; exact sliceBound_run h0 hle
    · cases hh

theorem sliceBounds_run {P : Program} {w : World} {sl : Bool} {lo hi mx : Option Value} {n c l h m : Nat} (hl : slB lo = some l) (hh : slH hi n = some h) (hm : slH mx c = some m)
    (h1 : l ≤ h) (h2 : h ≤ m) (h3 : m ≤ c) (h4 : mx.isSome = true → hi.isSome = true) : (Instr.sliceBounds sl n c lo hi mx).run P w = .ok (l, h, m) w := by
  unfold Instr.sliceBounds
  cases mx with
  | none =>
    simp only [slH, Option.some.injEq] at hm
    subst hm
    have e2 := fun code => slB_run (P := P) (w := w) (code := code) hl h1
    cases hi with
    | none =>
      simp only [slH, Option.some.injEq] at hh
      subst hh
      cases lo with
      | none => have := e2 .sliceB; simp at this; simp [this]
      | some lv => have := e2 .sliceB; simp at this; simp [this]
    | some hv =>
      have e3 := fun code => slH_run (P := P) (w := w) (code := code) hh h2
      simp only at e3
      cases lo with
      | none => have := e2 .sliceB; simp at this; simp [e3, this]
      | some lv => have := e2 .sliceB; simp at this; simp [e3, this]
  | some mv =>
    have e1 := fun code => slH_run (P := P) (w := w) (code := code) hm h3
    simp only at e1
    have e2 := fun code => slB_run (P := P) (w := w) (code := code) hl h1
    cases hi with
    | none => simp at h4
    | some hv =>
      have e3 := fun code => slH_run (P := P) (w := w) (code := code) hh h2
      simp only at e3
      cases lo with
      | none => have := e2 .slice3C; simp at this; simp [e1, e3, this]
      | some lv => have := e2 .slice3C; simp at this; simp [e1, e3, this]

theorem slV_run {P : Program} {t : TypeId} {x u : Value} {lo hi mx : Option Value} {w : World} (h : slV P t x lo hi mx = some u) :
    (Instr.sliceAt t x lo hi mx).run P w = .ok u w := by
  unfold slV at h
  split at h
  · rename_i s hu
    split at h
    · rename_i l hh hl hhh
      split at h
      · rename_i hle
        cases h
        have e1 := sliceBounds_run (P := P) (w := w) (sl := false) (n := s.size) (c := s.size) hl hhh (mx := Option.none) rfl hle.1 hle.2 (Nat.le_refl _) (by simp)
        simp [Instr.sliceAt, Instr.slice, underlying, program, Sem.run, show P.underlying t = _ from hu, e1]
      · cases h
    · cases h
  · rename_i hu
    split at h
    · rename_i l hh m hl hhh hm
      split at h
      · rename_i hle
        obtain ⟨h1, h2, h3, h4⟩ := hle
        generalize hinf : P.info? _ = inf at h
        cases inf with
        | none => cases h
        | some inf =>
          simp only [Option.isSome_some, cond_true, Option.some.injEq] at h
          subst h
          have e1 := sliceBounds_run (P := P) (w := w) (sl := true) hl hhh hm h1 h2 h3 h4
          simp [Instr.sliceAt, Instr.slice, underlying, program, Sem.run, show P.underlying t = _ from hu, e1, sizeOf, typeInfo, hinf, tyS, adr]
      · cases h
    · cases h
  · cases h

def exV (i : Nat) : Value → Option Value
  | .tuple l => l[i]?
  | _ => Option.none

def cvV (P : Program) (src dst : TypeId) (x : Value) : Option Value :=
  match tyU P src, tyU P dst, x with
  | some (.int _), some (.int k), .int _ n => some (.int k (k.wrap n))
  | _, _, _ => Option.none

theorem cvV_run {P : Program} {s t : TypeId} {x u : Value} {w : World} (h : cvV P s t x = some u) : (convert s t x).run P w = .ok u w := by
  unfold cvV at h
  split at h
  · rename_i k0 k k1 n hs hd
    cases h
    simp [convert, underlying, program, Sem.run, show P.underlying s = _ from hs, show P.underlying t = _ from hd, Conv.intToInt]
  · cases h

def fdA (P : Program) (s : TypeId) (x : Value) (f : Nat) : Option Value :=
  match tyU P s, x with
  | some (.struct fs), .pointer a => if a.isSome = true then (fs[f]?).bind fun fd => bif (P.info? fd.type).isSome && !decide (tyS P fd.type = 0) then some (.pointer (adr a fd.offset)) else Option.none else Option.none
  | _, _ => Option.none

/-- a variable's value behind a pointer -/
def ldP (P : Program) (w : World) (t : TypeId) (p : Option Addr) : Option Value := p.bind (ldV P w t)
def cellO (w : World) (p : Option Addr) : Option Value := p.bind w.cell?

theorem ldP_cell {P : Program} {w : World} {t : TypeId} {p : Option Addr} (h1 : tyA P t = false) (h2 : (tyU P t).isSome = true) : ldP P w t p = cellO w p := by
  cases p with
  | none => rfl
  | some a => simp [ldP, cellO, ldV, h1, h2]

end Go.Proofs.Ytciadbhnodgpgaa
