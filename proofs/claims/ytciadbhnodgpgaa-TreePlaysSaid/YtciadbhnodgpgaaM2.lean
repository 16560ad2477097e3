/-
  slices.AppendSeq, slices.Collect at texts; slices.Clip.
  Conditions: none.
-/
import Derived.Test.YtciadbhnodgpgaaC3
import Derived.Test.YtciadbhnodgpgaaK12
set_option linter.unusedVariables false
set_option linter.unusedSimpArgs false
set_option linter.defProp false
namespace Go.Proofs.Ytciadbhnodgpgaa
open Go
set_option maxRecDepth 10000

theorem owns_keep {S : Nat → Prop} {w x : World} {base : Nat} {e : TypeId} {size : Nat} {v : Value} {n : Nat} {xs : List Value} (h : w.ownsRow base e size v n xs) (hk : Keep S w x) (hS : ∀ b, base ≤ b → ¬ S b) : x.ownsRow base e size v n xs := by
  obtain ⟨h1, h2⟩ := h
  refine ⟨h1, ?_⟩
  rcases h2 with h2 | ⟨g, cap, cur, hv, hb, hg, rest⟩
  · exact .inl h2
  · exact .inr ⟨g, cap, cur, hv, hb, (hk.block _ (Array.getElem?_eq_some_iff.1 hg).1 (hS _ hb)).trans hg, rest⟩

theorem own_ge {w : World} {base : Nat} {e : TypeId} {size : Nat} {v : Value} {n : Nat} {xs : List Value} (h : w.ownsRow base e size v n xs) {b : Nat} (hb : some b = v.ownBlock) : base ≤ b := by
  rcases h.2 with ⟨rfl, _⟩ | ⟨g, cap, cur, rfl, hg, _⟩
  · cases hb
  · cases hb; exact hg

def encT (k : Lab) (_ : World) (args : Array Value) : Prop := args = #[vs k]

theorem AppendSeq_ok {w : World} {g : FuncId} {cap : Array Value} {own : Nat} {Pre : List Lab → Lab → Prop} {Full : List Lab → Prop} (hc : callable Try.prog g = true)
    (hit : ∀ n0 C, w.heap.size ≤ n0 → (∀ b, C b → w.heap.size ≤ b) → IterG Try.prog g cap w n0 C own Pre Full encT) (hlen : ∀ pre x, Pre pre x → pre.length < 1000000000000) :
    Fn Try.prog 73 #[.slice Option.none 0 0, .func (.func g) #[] cap] w (fun v w' => Ext w w' ∧ ∃ xs, Full xs ∧ w'.ownsRow w.heap.size 9 1 v xs.length (xs.map vs)) := by
  refine enter Try.func73 Try.ntmps73 rfl rfl ?_
  repeat (with_reducible first | refine W_seq ?_ | refine W_block ?_ | refine W_skip ?_ | refine W_ret ?_ | refine W_exit ?_ | refine thenQ_normal ?_ | refine thenQ_exit ?_ | refine thenQ_ret ?_ | refine blockQ_normal ?_ | refine blockQ_ret ?_ | refine blockQ_same ?_ | refine blockQ_other rfl ?_)
  refine W_reg (by rfl) ?_; intro gd K hgd hK; simp (disch := first | omega | assumption | rfl) only [↓reduceIte, go_sem, Nat.reduceLT, Nat.reduceEqDiff, Nat.reduceSub]; refine hK _ _ ?_; clear hK hgd; clear K gd
  repeat (with_reducible first | refine W_seq ?_ | refine W_block ?_ | refine W_skip ?_ | refine W_ret ?_ | refine W_exit ?_ | refine thenQ_normal ?_ | refine thenQ_exit ?_ | refine thenQ_ret ?_ | refine blockQ_normal ?_ | refine blockQ_ret ?_ | refine blockQ_same ?_ | refine blockQ_other rfl ?_)
  refine W_reg (by rfl) ?_; intro gd K hgd hK; simp (disch := first | omega | assumption | rfl) only [↓reduceIte, go_sem, Nat.reduceLT, Nat.reduceEqDiff, Nat.reduceSub]; refine hK _ _ ?_; clear hK hgd; clear K gd
  repeat (with_reducible first | refine W_seq ?_ | refine W_block ?_ | refine W_skip ?_ | refine W_ret ?_ | refine W_exit ?_ | refine thenQ_normal ?_ | refine thenQ_exit ?_ | refine thenQ_ret ?_ | refine blockQ_normal ?_ | refine blockQ_ret ?_ | refine blockQ_same ?_ | refine blockQ_other rfl ?_)
  have hbox := new_block w (.cells #[.slice Option.none 0 0] 23 (0, 0))
  have hE0 := Ext.alloc w (.cells #[.slice Option.none 0 0] 23 (0, 0))
  have hs0 := new_size w (.cells #[.slice Option.none 0 0] 23 (0, 0))
  revert hbox hE0 hs0
  generalize w.alloc (.cells #[.slice Option.none 0 0] 23 (0, 0)) = w1
  intro hbox hE0 hs0
  refine W_rangeG (g := g) (cap := cap) (by simp only [↓reduceIte, go_sem, Nat.reduceLT, Nat.reduceEqDiff, Nat.reduceSub]) hc (hit w1.heap.size (fun b => b = w.heap.size) hE0.size (fun b hb => by omega)) hE0 (Nat.le_refl _) (fun b hb => by omega)
    (fun x A args h => by rw [h]; rfl)
    (fun pre A => Ext w A ∧ ∃ v, A.heap[w.heap.size]? = some (.cells #[v] 23 (0, 0)) ∧ A.ownsRow (w1.heap.size + 2 + own) 9 1 v pre.length (pre.map vs))
    (fun _ _ _ => False) ?_ (fun _ _ _ _ h _ => h.elim) ?_ ?_ ?_ (fun _ _ _ _ _ _ h _ => h.elim)
  · rintro pre A B ⟨h1, v, h2, h3⟩ hk
    exact ⟨Keep.to_ext h1 rfl (fun b hb => by unfold span at hb; omega) hk, v, (hk.block _ (Array.getElem?_eq_some_iff.1 h2).1 (by unfold span; omega)).trans h2, owns_keep h3 hk (fun b hb => by unfold span; omega)⟩
  · exact ⟨hE0, _, hbox, rfl, .inl ⟨rfl, rfl⟩⟩
  · rintro lp pre x A args hpx hszA ⟨hEA, v, hbx, hown⟩ rfl
    repeat (first | (with_reducible first | refine W_seq ?_ | refine W_block ?_ | refine W_skip ?_ | refine W_ret ?_ | refine W_exit ?_ | refine thenQ_normal ?_ | refine thenQ_exit ?_ | refine thenQ_ret ?_ | refine blockQ_normal ?_ | refine blockQ_ret ?_ | refine blockQ_same ?_ | refine blockQ_other rfl ?_) | (refine W_reg (by rfl) ?_; intro gd K hgd hK; simp (disch := first | omega | assumption | rfl) only [↓reduceIte, go_sem, Nat.reduceLT, Nat.reduceEqDiff, Nat.reduceSub]; refine hK _ _ ?_; clear hK hgd; clear K gd))
    refine ⟨rfl, KeepB.refl _ _ _, fun A2 hA2 => ?_⟩
    have hEA2 : Ext w A2 := Keep.to_ext hEA rfl (fun b hb => by unfold two at hb; omega) hA2
    have hb2 := (hA2.block _ (Array.getElem?_eq_some_iff.1 hbx).1 (by unfold two; omega)).trans hbx
    have hown2 := owns_keep hown hA2 (fun b hb => by unfold two; omega)
    have hs2 := hA2.size
    have hcell : cellO A2 (some ⟨w.heap.size, 0, Option.none⟩) = some v := by
      show A2.cell? _ = _
      rw [cell_of hb2]; rfl
    have hpl := hlen _ _ hpx
    have hvs : ∃ a n c, v = .slice a n c := by
      rcases hown2.2 with ⟨rfl, _⟩ | ⟨g, cap, cur, rfl, _⟩
      · exact ⟨_, _, _, rfl⟩
      · exact ⟨_, _, _, rfl⟩
    obtain ⟨sa, sn, sc, rfl⟩ := hvs
    repeat (with_reducible first | refine W_seq ?_ | refine W_block ?_ | refine W_skip ?_ | refine W_ret ?_ | refine W_exit ?_ | refine thenQ_normal ?_ | refine thenQ_exit ?_ | refine thenQ_ret ?_ | refine blockQ_normal ?_ | refine blockQ_ret ?_ | refine blockQ_same ?_ | refine blockQ_other rfl ?_)
    refine W_reg (by rfl) ?_; intro gd K hgd hK
    try simp (disch := first | omega | assumption | rfl) only [↓reduceIte, go_sem, Nat.reduceLT, Nat.reduceEqDiff, Nat.reduceSub, hcell]
    have hbs : bsC Try.prog 23 1 [(0, vs x)] = some (9, #[vs x]) := bsC_one (z := vs []) rfl rfl rfl rfl rfl
    unfold bsL bsK
    rw [hbs]
    simp only []
    have hbn := new_block A2 (.cells #[vs x] 9 (0, 0))
    have hE3 := Ext.alloc A2 (.cells #[vs x] 9 (0, 0))
    have hs3 := new_size A2 (.cells #[vs x] 9 (0, 0))
    revert hbn hE3 hs3
    generalize A2.alloc (.cells #[vs x] 9 (0, 0)) = A3
    intro hbn hE3 hs3
    try simp (disch := first | omega | assumption | rfl) only [↓reduceIte, go_sem, Nat.reduceLT, Nat.reduceEqDiff, Nat.reduceSub]
    refine op_append (P := Try.prog) (e := 9) (size := 1) (bytes := 16) (m := 1) (news := [vs x]) rfl rfl rfl rfl rfl rfl (by decide) (by first | (simp only [↓reduceIte, go_sem, Nat.reduceLT, Nat.reduceEqDiff, Nat.reduceSub]; done) | (simp only [↓reduceIte, go_sem, Nat.reduceLT, Nat.reduceEqDiff, Nat.reduceSub]; rfl)) (by first | (simp only [↓reduceIte, go_sem, Nat.reduceLT, Nat.reduceEqDiff, Nat.reduceSub]; done) | (simp only [↓reduceIte, go_sem, Nat.reduceLT, Nat.reduceEqDiff, Nat.reduceSub]; rfl)) (owns_keep hown2 hE3 (fun _ _ h => h)) ?_ ?_ ?_ ?_ (by omega) ?_
    · refine ⟨_, _, rfl, rfl, fun j hj => ?_⟩
      have : j = 0 := by simpa using hj
      subst this
      rw [adr_some]
      show A3.cell? _ = _
      rw [cell_of hbn]; rfl
    · intro q hq
      rw [List.mem_singleton.1 hq]; rfl
    · simp [maxLen]; omega
    · omega
    intro v' A4 hown4 hk4 _
    have hge : ∀ b, some b = (Value.slice sa sn sc).ownBlock → w1.heap.size + 2 + own ≤ b := fun b hb => own_ge hown2 hb
    have hb4 := (hk4.block _ (by have := (Array.getElem?_eq_some_iff.1 hb2).1; omega) (fun h => by have := hge _ h; omega)).trans ((hE3.block _ (Array.getElem?_eq_some_iff.1 hb2).1 (fun h => h)).trans hb2)
    have hov : one v' = true := by
      rcases hown4.2 with ⟨rfl, _⟩ | ⟨g, cap, cur, rfl, _⟩ <;> rfl
    try simp (disch := first | omega | assumption | rfl) only [↓reduceIte, go_sem, Nat.reduceLT, Nat.reduceEqDiff, Nat.reduceSub]
    refine st_one rfl rfl hov hb4 (by simp) (by simp) ?_
    intro A5 hs5 hb5 hk5
    refine hK _ _ ?_; clear hK hgd; clear K; try clear gd
    repeat (with_reducible first | refine W_seq ?_ | refine W_block ?_ | refine W_skip ?_ | refine W_ret ?_ | refine W_exit ?_ | refine thenQ_normal ?_ | refine thenQ_exit ?_ | refine thenQ_ret ?_ | refine blockQ_normal ?_ | refine blockQ_ret ?_ | refine blockQ_same ?_ | refine blockQ_other rfl ?_)
    have hs4 := hk4.size
    refine ⟨⟨?_, v', hb5, ?_⟩, ((hE3.toB (by omega) (fun _ _ h => h.elim)).trans (hk4.toB (by omega) (fun b hb h => by have := hge _ h; omega))).trans (hk5.toB (by omega) (fun b _ h => h))⟩
    · exact Keep.to_ext (Keep.to_ext (hEA2.trans hE3) rfl (fun b hb => by have := hge _ hb; omega) hk4) rfl (fun b hb => by omega) hk5
    · have := owns_keep hown4 hk5 (fun b hb => by omega)
      simpa using this
  · rintro xs w4 hfull hsz4 ⟨hE4, v, hb4, hown4⟩ hD
    have hcell : cellO w4 (some ⟨w.heap.size, 0, Option.none⟩) = some v := by
      show w4.cell? _ = _
      rw [cell_of hb4]; rfl
    repeat (with_reducible first | refine W_seq ?_ | refine W_block ?_ | refine W_skip ?_ | refine W_ret ?_ | refine W_exit ?_ | refine thenQ_normal ?_ | refine thenQ_exit ?_ | refine thenQ_ret ?_ | refine blockQ_normal ?_ | refine blockQ_ret ?_ | refine blockQ_same ?_ | refine blockQ_other rfl ?_)
    refine W_reg (by rfl) ?_; intro gd K hgd hK; simp (disch := first | omega | assumption | rfl) only [↓reduceIte, go_sem, Nat.reduceLT, Nat.reduceEqDiff, Nat.reduceSub, hcell]; refine hK _ _ ?_; clear hK hgd; clear K gd
    repeat (with_reducible first | refine W_seq ?_ | refine W_block ?_ | refine W_skip ?_ | refine W_ret ?_ | refine W_exit ?_ | refine thenQ_normal ?_ | refine thenQ_exit ?_ | refine thenQ_ret ?_ | refine blockQ_normal ?_ | refine blockQ_ret ?_ | refine blockQ_same ?_ | refine blockQ_other rfl ?_)
    refine ret_mark (by simp) rfl Try.ntmps73 (by simp only [↓reduceIte, go_sem, Nat.reduceLT, Nat.reduceEqDiff, Nat.reduceSub]; rfl) hD ?_
    intro w5 hk5 _
    have h5 := owns_keep hown4 hk5 (fun b hb => by omega)
    refine ⟨Keep.to_ext hE4 rfl (fun b hb => by omega) hk5, xs, hfull, h5.1, ?_⟩
    rcases h5.2 with h | ⟨g, c, cur, h1, h2, h3⟩
    · exact .inl h
    · exact .inr ⟨g, c, cur, h1, by omega, h3⟩

theorem Collect_ok {w : World} {g : FuncId} {cap : Array Value} {own : Nat} {Pre : List Lab → Lab → Prop} {Full : List Lab → Prop} (hc : callable Try.prog g = true)
    (hit : ∀ n0 C, w.heap.size ≤ n0 → (∀ b, C b → w.heap.size ≤ b) → IterG Try.prog g cap w n0 C own Pre Full encT) (hlen : ∀ pre x, Pre pre x → pre.length < 1000000000000) :
    Fn Try.prog 66 #[.func (.func g) #[] cap] w (fun v w' => Ext w w' ∧ ∃ xs, Full xs ∧ w'.ownsRow w.heap.size 9 1 v xs.length (xs.map vs)) := by
  refine enter Try.func66 Try.ntmps66 rfl rfl ?_
  repeat (with_reducible first | refine W_seq ?_ | refine W_block ?_ | refine W_skip ?_ | refine W_ret ?_ | refine W_exit ?_ | refine thenQ_normal ?_ | refine thenQ_exit ?_ | refine thenQ_ret ?_ | refine blockQ_normal ?_ | refine blockQ_ret ?_ | refine blockQ_same ?_ | refine blockQ_other rfl ?_)
  refine W_reg (by rfl) ?_; intro gd K hgd hK; simp (disch := first | omega | assumption | rfl) only [↓reduceIte, go_sem, Nat.reduceLT, Nat.reduceEqDiff, Nat.reduceSub]; refine hK _ _ ?_; clear hK hgd; clear K gd
  repeat (with_reducible first | refine W_seq ?_ | refine W_block ?_ | refine W_skip ?_ | refine W_ret ?_ | refine W_exit ?_ | refine thenQ_normal ?_ | refine thenQ_exit ?_ | refine thenQ_ret ?_ | refine blockQ_normal ?_ | refine blockQ_ret ?_ | refine blockQ_same ?_ | refine blockQ_other rfl ?_)
  refine W_reg (by rfl) ?_; intro gd K hgd hK
  try simp (disch := first | omega | assumption | rfl) only [↓reduceIte, go_sem, Nat.reduceLT, Nat.reduceEqDiff, Nat.reduceSub]
  refine Fn.mono (AppendSeq_ok hc hit hlen) ?_
  rintro v w1 ⟨hE, xs, hf, ho⟩
  try simp (disch := first | omega | assumption | rfl) only [↓reduceIte, go_sem, Nat.reduceLT, Nat.reduceEqDiff, Nat.reduceSub]
  refine hK _ _ ?_; clear hK hgd; clear K; try clear gd
  repeat (with_reducible first | refine W_seq ?_ | refine W_block ?_ | refine W_skip ?_ | refine W_ret ?_ | refine W_exit ?_ | refine thenQ_normal ?_ | refine thenQ_exit ?_ | refine thenQ_ret ?_ | refine blockQ_normal ?_ | refine blockQ_ret ?_ | refine blockQ_same ?_ | refine blockQ_other rfl ?_)
  refine ret_one (by simp) rfl Try.ntmps66 (by simp only [↓reduceIte, go_sem, Nat.reduceLT, Nat.reduceEqDiff, Nat.reduceSub]; rfl) ?_
  exact ⟨hE, xs, hf, ho⟩
end Go.Proofs.Ytciadbhnodgpgaa
