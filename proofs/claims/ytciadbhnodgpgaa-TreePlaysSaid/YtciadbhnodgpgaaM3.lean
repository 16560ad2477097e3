/-
  slices.SortedFunc by label.Compare; slices.Clip.
  Conditions: none.
-/
import Derived.Test.YtciadbhnodgpgaaM2
import Derived.Test.YtciadbhnodgpgaaS1
import Derived.Test.YtciadbhnodgpgaaM3a
set_option linter.unusedVariables false
set_option linter.unusedSimpArgs false
set_option linter.defProp false
namespace Go.Proofs.Ytciadbhnodgpgaa
open Go
set_option maxRecDepth 10000

theorem SortedFunc_ok {w : World} {g : FuncId} {cap : Array Value} {own : Nat} {Pre : List Lab → Lab → Prop} {Full : List Lab → Prop} (hc : callable Try.prog g = true)
    (hit : ∀ n0 C, w.heap.size ≤ n0 → (∀ b, C b → w.heap.size ≤ b) → IterG Try.prog g cap w n0 C own Pre Full encT) (hlen : ∀ pre x, Pre pre x → pre.length < 1000000000000)
    (hfull : ∀ xs, Full xs → xs.length ≤ 1000000000000 ∧ ∀ x ∈ xs, foldL x = x ∧ x.length ≤ 9000000000000000000) :
    Fn Try.prog 55 #[.func (.func g) #[] cap, .func (.func 57) #[] #[]] w (fun v w' => Ext w w' ∧ ∃ xs, Full xs ∧ RowB w.heap.size w' v ((sortK xs).map vs)) := by
  refine enter Try.func55 Try.ntmps55 rfl rfl ?_
  repeat (with_reducible first | refine W_seq ?_ | refine W_block ?_ | refine W_skip ?_ | refine W_ret ?_ | refine W_exit ?_ | refine thenQ_normal ?_ | refine thenQ_exit ?_ | refine thenQ_ret ?_ | refine blockQ_normal ?_ | refine blockQ_ret ?_ | refine blockQ_same ?_ | refine blockQ_other rfl ?_)
  refine W_reg (by rfl) ?_; intro gd K hgd hK; simp (disch := first | omega | assumption | rfl) only [↓reduceIte, go_sem, Nat.reduceLT, Nat.reduceEqDiff, Nat.reduceSub]; refine hK _ _ ?_; clear hK hgd; clear K gd
  repeat (with_reducible first | refine W_seq ?_ | refine W_block ?_ | refine W_skip ?_ | refine W_ret ?_ | refine W_exit ?_ | refine thenQ_normal ?_ | refine thenQ_exit ?_ | refine thenQ_ret ?_ | refine blockQ_normal ?_ | refine blockQ_ret ?_ | refine blockQ_same ?_ | refine blockQ_other rfl ?_)
  refine W_reg (by rfl) ?_; intro gd K hgd hK
  try simp (disch := first | omega | assumption | rfl) only [↓reduceIte, go_sem, Nat.reduceLT, Nat.reduceEqDiff, Nat.reduceSub]
  refine Fn.mono (Collect_ok hc hit hlen) ?_
  rintro v w1 ⟨hE, xs, hf, ho⟩
  have hvs : ∃ a n c, v = .slice a n c := by
    rcases ho.2 with ⟨rfl, _⟩ | ⟨g, cap, cur, rfl, _⟩
    · exact ⟨_, _, _, rfl⟩
    · exact ⟨_, _, _, rfl⟩
  obtain ⟨sa, sn, sc, rfl⟩ := hvs
  try simp (disch := first | omega | assumption | rfl) only [↓reduceIte, go_sem, Nat.reduceLT, Nat.reduceEqDiff, Nat.reduceSub]
  refine hK _ _ ?_; clear hK hgd; clear K; try clear gd
  repeat (with_reducible first | refine W_seq ?_ | refine W_block ?_ | refine W_skip ?_ | refine W_ret ?_ | refine W_exit ?_ | refine thenQ_normal ?_ | refine thenQ_exit ?_ | refine thenQ_ret ?_ | refine blockQ_normal ?_ | refine blockQ_ret ?_ | refine blockQ_same ?_ | refine blockQ_other rfl ?_)
  refine W_reg (by rfl) ?_; intro gd K hgd hK
  try simp (disch := first | omega | assumption | rfl) only [↓reduceIte, go_sem, Nat.reduceLT, Nat.reduceEqDiff, Nat.reduceSub]
  refine Fn.mono (SortFunc_ok ho (fun x hx => ((hfull xs hf).2 x hx).1) (fun x hx => ((hfull xs hf).2 x hx).2) (hfull xs hf).1) ?_
  rintro u w2 ⟨ho2, hk2⟩
  try simp (disch := first | omega | assumption | rfl) only [↓reduceIte, go_sem, Nat.reduceLT, Nat.reduceEqDiff, Nat.reduceSub]
  refine hK _ _ ?_; clear hK hgd; clear K; try clear gd
  repeat (with_reducible first | refine W_seq ?_ | refine W_block ?_ | refine W_skip ?_ | refine W_ret ?_ | refine W_exit ?_ | refine thenQ_normal ?_ | refine thenQ_exit ?_ | refine thenQ_ret ?_ | refine blockQ_normal ?_ | refine blockQ_ret ?_ | refine blockQ_same ?_ | refine blockQ_other rfl ?_)
  refine W_reg (by rfl) ?_; intro gd K hgd hK; simp (disch := first | omega | assumption | rfl) only [↓reduceIte, go_sem, Nat.reduceLT, Nat.reduceEqDiff, Nat.reduceSub]; refine hK _ _ ?_; clear hK hgd; clear K gd
  repeat (with_reducible first | refine W_seq ?_ | refine W_block ?_ | refine W_skip ?_ | refine W_ret ?_ | refine W_exit ?_ | refine thenQ_normal ?_ | refine thenQ_exit ?_ | refine thenQ_ret ?_ | refine blockQ_normal ?_ | refine blockQ_ret ?_ | refine blockQ_same ?_ | refine blockQ_other rfl ?_)
  refine ret_one (by simp) rfl Try.ntmps55 (by simp only [↓reduceIte, go_sem, Nat.reduceLT, Nat.reduceEqDiff, Nat.reduceSub]; rfl) ?_
  exact ⟨Keep.to_ext hE rfl (fun b hb => own_ge ho hb) hk2, xs, hf, RowB.of_owns ho2⟩

theorem s_clip {P : Program} {e : TypeId} {ad : Option Addr} {n c : Nat} {k k' : IntKind} (h : n ≤ c) (hi : (P.info? e).isSome = true) :
    slD P (some (.slice e)) (.slice ad n c) Option.none (some (.int k n)) (some (.int k' n)) = some (.slice ad n n) := by
  have e1 : slB Option.none = some 0 := rfl
  have e2 : ∀ (k : IntKind) (d : Nat), slH (some (.int k (n : Int))) d = some n := fun k d => by simp [slH]
  simp only [slD, e1, e2]
  simp [h, hi, adr_zero]

theorem ClipS_ok {w : World} {v : Value} {l : List Value} (hr : Row w v l) : Fn Try.prog 39 #[v] w (fun u w' => Row w' u l ∧ Ext w w') := by
  obtain ⟨a, c, rfl, hc, hl⟩ := hr
  refine enter Try.func39 Try.ntmps39 rfl rfl ?_
  repeat (with_reducible first | refine W_seq ?_ | refine W_block ?_ | refine W_skip ?_ | refine W_ret ?_ | refine W_exit ?_ | refine thenQ_normal ?_ | refine thenQ_exit ?_ | refine thenQ_ret ?_ | refine blockQ_normal ?_ | refine blockQ_ret ?_ | refine blockQ_same ?_ | refine blockQ_other rfl ?_)
  refine W_reg (by rfl) ?_; intro gd K hgd hK; simp (disch := first | omega | assumption | rfl) only [↓reduceIte, go_sem, Nat.reduceLT, Nat.reduceEqDiff, Nat.reduceSub]; refine hK _ _ ?_; clear hK hgd; clear K gd
  repeat (with_reducible first | refine W_seq ?_ | refine W_block ?_ | refine W_skip ?_ | refine W_ret ?_ | refine W_exit ?_ | refine thenQ_normal ?_ | refine thenQ_exit ?_ | refine thenQ_ret ?_ | refine blockQ_normal ?_ | refine blockQ_ret ?_ | refine blockQ_same ?_ | refine blockQ_other rfl ?_)
  refine W_reg (by rfl) ?_; intro gd K hgd hK
  try simp (disch := first | omega | assumption | rfl) only [↓reduceIte, go_sem, Nat.reduceLT, Nat.reduceEqDiff, Nat.reduceSub]
  have hcl : slD Try.prog (some (TypeDesc.slice 9)) (Value.slice a l.length c) Option.none (some (Value.int IntKind.i64 ↑l.length)) (some (Value.int IntKind.i64 ↑l.length)) = some (.slice a l.length l.length) := s_clip hc (by rfl)
  rw [hcl]
  try simp (disch := first | omega | assumption | rfl) only [↓reduceIte, go_sem, Nat.reduceLT, Nat.reduceEqDiff, Nat.reduceSub]
  refine hK _ _ ?_; clear hK hgd; clear K; try clear gd
  repeat (with_reducible first | refine W_seq ?_ | refine W_block ?_ | refine W_skip ?_ | refine W_ret ?_ | refine W_exit ?_ | refine thenQ_normal ?_ | refine thenQ_exit ?_ | refine thenQ_ret ?_ | refine blockQ_normal ?_ | refine blockQ_ret ?_ | refine blockQ_same ?_ | refine blockQ_other rfl ?_)
  refine ret_one (by simp) rfl Try.ntmps39 (by simp only [↓reduceIte, go_sem, Nat.reduceLT, Nat.reduceEqDiff, Nat.reduceSub]; rfl) ?_
  exact ⟨⟨a, l.length, rfl, Nat.le_refl _, hl⟩, Keep.refl _ _⟩
end Go.Proofs.Ytciadbhnodgpgaa
