/-
  The contract of (*Tree).Names, at elements of type int.
  Conditions: none.
-/
import Derived.Test.YtciadbhnodgpgaaT5int
import Derived.Test.YtciadbhnodgpgaaN2
set_option linter.unusedVariables false
set_option linter.unusedSimpArgs false
set_option linter.defProp false
namespace Go.Proofs.Ytciadbhnodgpgaa.T_int
open Go Go.Proofs.Ytciadbhnodgpgaa
set_option maxRecDepth 10000

theorem bsC_nil {P : Program} {t e : TypeId} {z : Value} (hu : tyU P t = some (.slice e)) (hz : tyZ P e = some z) (hs : z.cells.size = tyS P e) : bsC P t 0 [] = some (e, #[]) := by
  simp [bsC, hu, hz, hs, Instr.fill]

theorem names1_ok {W00 W0 : World} {n0 : Nat} {C : Nat → Prop} {b1 tb : Nat} {s : TS} {fuel : Nat} (hT : TAt W00 tb s) (hs : TOk s) (hS : Small s) (hdeep : ∀ g ∈ s.names, g.length ≤ 100000000000) (hfuel : ∀ g ∈ s.names, g.length < fuel)
    (hE : Ext W00 W0) (hC : ∀ b, C b → W00.heap.size ≤ b ∧ b < W0.heap.size) (hn0 : W00.heap.size ≤ n0) (h1 : W0.cell? ⟨b1, 0, Option.none⟩ = some (ptrOf tb)) :
    IterU Try.prog 35 #[ptrOf b1] W0 n0 C 0 (fun pre x => ∃ suf, allN s.names fuel [] = pre ++ x :: suf) (fun l => l = allN s.names fuel []) encN := by
  intro lp J Jx W hW hnW hJ hJx hY h0
  have hEW := hE.trans hW
  have hc1 : cellO W (some ⟨b1, 0, Option.none⟩) = some (ptrOf tb) := cell_ext hW h1
  have hroot : cellO W (some ⟨tb, 0, Option.none⟩) = some (ptrOf (s.nb [])) := by
    show W.cell? _ = _
    rw [cell_of (hT.ext hEW).root]; rfl
  unfold ptrOf at hc1 hroot
  have hJ' : ∀ pre U A B, J pre U A → Ext A B → J pre U B := fun pre U A B hj hk => hJ pre U A B hj (hk.mono (fun _ _ h => h.elim))
  refine enter Try.func35 Try.ntmps35 rfl rfl ?_
  repeat (with_reducible first | refine W_seq ?_ | refine W_block ?_ | refine W_skip ?_ | refine W_ret ?_ | refine W_exit ?_ | refine thenQ_normal ?_ | refine thenQ_exit ?_ | refine thenQ_ret ?_ | refine blockQ_normal ?_ | refine blockQ_ret ?_ | refine blockQ_same ?_ | refine blockQ_other rfl ?_)
  refine W_reg (by rfl) ?_; intro gd K hgd hK
  try simp (disch := first | omega | assumption | rfl) only [↓reduceIte, go_sem, Nat.reduceLT, Nat.reduceEqDiff, Nat.reduceSub, ptrOf, hc1, hroot]
  have hbs : bsC Try.prog 24 0 [] = some (9, #[]) := bsC_nil (z := vs []) rfl rfl rfl
  unfold bsL bsK
  rw [hbs]
  simp only []
  have hbn := new_block W (.cells #[] 9 (0, 0))
  have hEn := Ext.alloc W (.cells #[] 9 (0, 0))
  have hsn := new_size W (.cells #[] 9 (0, 0))
  revert hbn hEn hsn
  generalize W.alloc (.cells #[] 9 (0, 0)) = W1
  intro hbn hEn hsn
  try simp (disch := first | omega | assumption | rfl) only [↓reduceIte, go_sem, Nat.reduceLT, Nat.reduceEqDiff, Nat.reduceSub]
  refine Fn.mono (all_ok (J := J) (Jx := Jx) (full := allN s.names fuel []) (B0 := W.heap.size) hT hs hS hdeep hEW (fun b hb => ⟨(hC b hb).1, by have := (hC b hb).2; have := hW.size; omega⟩) hn0 hnW (Nat.le_refl _) hJ'
    (fun pre U x suf A args e hj hsz hkb hen => hY pre U x A args ⟨suf, e⟩ hj (by omega) hkb hen) fuel [] W1 NoS [] [] _ hs.nil (fun g hg => by have := hfuel g hg; simpa using this) (by simp) (hJ' _ _ _ _ h0 hEn) (fun _ h => h.elim) (by omega)
    (hEn.toB hnW (fun _ _ h => h.elim)) ⟨⟨some ⟨W.heap.size, 0, Option.none⟩, 0, rfl, Nat.le_refl _, fun j h => by simp at h⟩, fun a n c hv => by cases hv; exact ⟨Nat.le_refl _, by show W.heap.size < _; omega, fun h => h⟩⟩) ?_
  intro v B hres
  try simp (disch := first | omega | assumption | rfl) only [↓reduceIte, go_sem, Nat.reduceLT, Nat.reduceEqDiff, Nat.reduceSub]
  refine hK _ _ ?_; clear hK hgd; clear K; try clear gd
  repeat (with_reducible first | refine W_seq ?_ | refine W_block ?_ | refine W_skip ?_ | refine W_ret ?_ | refine W_exit ?_ | refine thenQ_normal ?_ | refine thenQ_exit ?_ | refine thenQ_ret ?_ | refine blockQ_normal ?_ | refine blockQ_ret ?_ | refine blockQ_same ?_ | refine blockQ_other rfl ?_)
  refine ret_none (by simp) rfl ?_
  rcases hres with ⟨_, U', hj, _⟩ | ⟨_, p, x, q, e, hjx⟩
  · exact .inl ⟨_, U', rfl, by simpa using hj⟩
  · exact .inr ⟨p, x, ⟨q, e⟩, hjx⟩

/-- slices, each a name's -/
def NRows (B : Nat) (U : Nat → Prop) (A : World) (vals : List Value) (ns : List Nm) : Prop := vals.length = ns.length ∧ ∀ i (h : i < vals.length) (h' : i < ns.length), RowZ B U A vals[i] (ns[i].map vs)

theorem NRows.keep {B : Nat} {U U' X : Nat → Prop} {A D : World} {vals : List Value} {ns : List Nm} (h : NRows B U A vals ns) (hk : Keep X A D) (hX : ∀ b, X b → B ≤ b → b < A.heap.size → U b) (hU : ∀ b, U' b → U b ∨ A.heap.size ≤ b) : NRows B U' D vals ns := by
  refine ⟨h.1, fun i h1 h2 => ?_⟩
  obtain ⟨hr, hz⟩ := h.2 i h1 h2
  refine ⟨hr.blocks (fun a n c hv => ?_), fun a n c hv => ?_⟩
  · obtain ⟨k1, k2, k3⟩ := hz a n c hv
    exact hk.block _ k2 (fun hx => k3 (hX _ hx k1 k2))
  · obtain ⟨k1, k2, k3⟩ := hz a n c hv
    have := hk.size
    refine ⟨k1, by omega, fun hu => ?_⟩
    rcases hU _ hu with h' | h'
    · exact k3 h'
    · omega

theorem Names_ok {w : World} {tb : Nat} {s : TS} {fuel : Nat} (hT : TAt w tb s) (hs : TOk s) (hS : Small s) (hdeep : ∀ g ∈ s.names, g.length ≤ 100000000000) (hfuel : ∀ g ∈ s.names, g.length < fuel) (hlen : (allN s.names fuel []).length ≤ 1000000000) :
    Fn Try.prog 12 #[ptrOf tb] w (fun v w' => Ext w w' ∧ NamesAt w' v (allN s.names fuel [])) := by
  refine enter Try.func12 Try.ntmps12 rfl rfl ?_
  repeat (with_reducible first | refine W_seq ?_ | refine W_block ?_ | refine W_skip ?_ | refine W_ret ?_ | refine W_exit ?_ | refine thenQ_normal ?_ | refine thenQ_exit ?_ | refine thenQ_ret ?_ | refine blockQ_normal ?_ | refine blockQ_ret ?_ | refine blockQ_same ?_ | refine blockQ_other rfl ?_)
  refine W_reg (by rfl) ?_; intro gd K hgd hK; simp (disch := first | omega | assumption | rfl) only [↓reduceIte, go_sem, Nat.reduceLT, Nat.reduceEqDiff, Nat.reduceSub]; refine hK _ _ ?_; clear hK hgd; clear K gd
  repeat (with_reducible first | refine W_seq ?_ | refine W_block ?_ | refine W_skip ?_ | refine W_ret ?_ | refine W_exit ?_ | refine thenQ_normal ?_ | refine thenQ_exit ?_ | refine thenQ_ret ?_ | refine blockQ_normal ?_ | refine blockQ_ret ?_ | refine blockQ_same ?_ | refine blockQ_other rfl ?_)
  refine W_reg (by rfl) ?_; intro gd K hgd hK; simp (disch := first | omega | assumption | rfl) only [↓reduceIte, go_sem, Nat.reduceLT, Nat.reduceEqDiff, Nat.reduceSub]; refine hK _ _ ?_; clear hK hgd; clear K gd
  repeat (with_reducible first | refine W_seq ?_ | refine W_block ?_ | refine W_skip ?_ | refine W_ret ?_ | refine W_exit ?_ | refine thenQ_normal ?_ | refine thenQ_exit ?_ | refine thenQ_ret ?_ | refine blockQ_normal ?_ | refine blockQ_ret ?_ | refine blockQ_same ?_ | refine blockQ_other rfl ?_)
  refine W_reg (by rfl) ?_; intro gd K hgd hK; simp (disch := first | omega | assumption | rfl) only [↓reduceIte, go_sem, Nat.reduceLT, Nat.reduceEqDiff, Nat.reduceSub]; refine hK _ _ ?_; clear hK hgd; clear K gd
  repeat (with_reducible first | refine W_seq ?_ | refine W_block ?_ | refine W_skip ?_ | refine W_ret ?_ | refine W_exit ?_ | refine thenQ_normal ?_ | refine thenQ_exit ?_ | refine thenQ_ret ?_ | refine blockQ_normal ?_ | refine blockQ_ret ?_ | refine blockQ_same ?_ | refine blockQ_other rfl ?_)
  refine W_reg (by rfl) ?_; intro gd K hgd hK; simp (disch := first | omega | assumption | rfl) only [↓reduceIte, go_sem, Nat.reduceLT, Nat.reduceEqDiff, Nat.reduceSub]; refine hK _ _ ?_; clear hK hgd; clear K gd
  repeat (with_reducible first | refine W_seq ?_ | refine W_block ?_ | refine W_skip ?_ | refine W_ret ?_ | refine W_exit ?_ | refine thenQ_normal ?_ | refine thenQ_exit ?_ | refine thenQ_ret ?_ | refine blockQ_normal ?_ | refine blockQ_ret ?_ | refine blockQ_same ?_ | refine blockQ_other rfl ?_)
  have hb1 := new_block w (.cells #[ptrOf tb] 27 (0, 0))
  have hE1 := (Ext.alloc w (.cells #[ptrOf tb] 27 (0, 0))).trans (Ext.alloc _ (.cells #[.slice Option.none 0 0] 22 (0, 0)))
  have hb1' := (RowKit.Below.heap_alloc _ (.cells #[.slice Option.none 0 0] 22 (0, 0)) _ (by simp)).trans hb1
  have hb3 := new_block (w.alloc (.cells #[ptrOf tb] 27 (0, 0))) (.cells #[.slice Option.none 0 0] 22 (0, 0))
  have hs1 : ((w.alloc (.cells #[ptrOf tb] 27 (0, 0))).alloc (.cells #[.slice Option.none 0 0] 22 (0, 0))).heap.size = w.heap.size + 2 := by simp
  rw [new_size] at hb3
  rw [new_size]
  unfold ptrOf at hb1' hE1 hb3 hs1
  revert hb1' hE1 hb3 hs1
  generalize (w.alloc (.cells #[.pointer (some ⟨tb, 0, Option.none⟩)] 27 (0, 0))).alloc (.cells #[.slice Option.none 0 0] 22 (0, 0)) = w1
  intro hE1 hb1' hb3 hs1
  refine W_rangeU (own := 0) (n0 := w1.heap.size) (C := fun b => b = w.heap.size + 1) (by simp only [↓reduceIte, go_sem, Nat.reduceLT, Nat.reduceEqDiff, Nat.reduceSub]) (by rfl) (names1_ok (b1 := w.heap.size) hT hs hS hdeep hfuel hE1 (fun b hb => by omega) hE1.size (by rw [cell_of hb1']; rfl)) (Keep.refl _ _) (Nat.le_refl _) (fun b hb => by omega)
    (fun x U A args h => by obtain ⟨nv, rfl, _⟩ := h; rfl)
    (fun pre U A => Ext w A ∧ ∃ v vals, A.heap[w.heap.size + 1]? = some (.cells #[v] 22 (0, 0)) ∧ A.ownsRow (w1.heap.size + 2) 24 1 v pre.length vals ∧ NRows (w1.heap.size + 2) U A vals pre ∧ (∀ b, some b = v.ownBlock → U b))
    (fun _ _ _ => False) ?_ (fun _ _ _ _ h _ => h.elim) ?_ ?_ ?_ (fun _ _ _ _ _ _ h _ => h.elim)
  · rintro pre U A B ⟨h1, v, vals, h2, h3, h4, h5⟩ hU hk
    refine ⟨Keep.to_ext h1 rfl (fun b hb => by unfold span at hb; omega) hk, v, vals, (hk.block _ (Array.getElem?_eq_some_iff.1 h2).1 (by unfold span; omega)).trans h2, owns_keep h3 hk (fun b hb => by unfold span; omega), h4.keep hk (fun b hb h1 _ => by unfold span at hb; omega) (fun b hb => .inl hb), h5⟩
  · exact ⟨hE1, _, [], hb3, ⟨rfl, .inl ⟨rfl, rfl⟩⟩, ⟨rfl, fun i h => by simp at h⟩, fun b hb => by cases hb⟩
  · rintro lp pre U x A args hpx hszA ⟨hEA, v, vals, hbx, hown, hrows, hUv⟩ hU ⟨nv, rfl, hnv⟩
    have hnvs : ∃ xa xn xc, nv = .slice xa xn xc := by obtain ⟨a, c, h, _⟩ := hnv.1; exact ⟨_, _, _, h⟩
    obtain ⟨xa, xn, xc, rfl⟩ := hnvs
    repeat (first | (with_reducible first | refine W_seq ?_ | refine W_block ?_ | refine W_skip ?_ | refine W_ret ?_ | refine W_exit ?_ | refine thenQ_normal ?_ | refine thenQ_exit ?_ | refine thenQ_ret ?_ | refine blockQ_normal ?_ | refine blockQ_ret ?_ | refine blockQ_same ?_ | refine blockQ_other rfl ?_) | (refine W_reg (by rfl) ?_; intro gd K hgd hK; simp (disch := first | omega | assumption | rfl) only [↓reduceIte, go_sem, Nat.reduceLT, Nat.reduceEqDiff, Nat.reduceSub]; refine hK _ _ ?_; clear hK hgd; clear K gd))
    refine ⟨rfl, Keep.refl _ _, fun A2 hA2 => ?_⟩
    have hEA2 : Ext w A2 := Keep.to_ext hEA rfl (fun b hb => by unfold two at hb; omega) hA2
    have hb2 := (hA2.block _ (Array.getElem?_eq_some_iff.1 hbx).1 (by unfold two; omega)).trans hbx
    have hown2 := owns_keep hown hA2 (fun b hb => by unfold two; omega)
    have hrows2 : NRows (w1.heap.size + 2) U A2 vals pre := hrows.keep hA2 (fun b hb h1 _ => by unfold two at hb; omega) (fun b hb => .inl hb)
    have hs2 := hA2.size
    have hcell : cellO A2 (some ⟨w.heap.size + 1, 0, Option.none⟩) = some v := by
      show A2.cell? _ = _
      rw [cell_of hb2]; rfl
    have hpl : pre.length ≤ 1000000000 := by obtain ⟨q, e⟩ := hpx; have := congrArg List.length e; simp at this; omega
    have hvs : ∃ a n c, v = .slice a n c := by
      rcases hown2.2 with ⟨rfl, _⟩ | ⟨g, cap, cur, rfl, _⟩
      · exact ⟨_, _, _, rfl⟩
      · exact ⟨_, _, _, rfl⟩
    obtain ⟨sa, sn, sc, rfl⟩ := hvs
    repeat (with_reducible first | refine W_seq ?_ | refine W_block ?_ | refine W_skip ?_ | refine W_ret ?_ | refine W_exit ?_ | refine thenQ_normal ?_ | refine thenQ_exit ?_ | refine thenQ_ret ?_ | refine blockQ_normal ?_ | refine blockQ_ret ?_ | refine blockQ_same ?_ | refine blockQ_other rfl ?_)
    refine W_reg (by rfl) ?_; intro gd K hgd hK
    try simp (disch := first | omega | assumption | rfl) only [↓reduceIte, go_sem, Nat.reduceLT, Nat.reduceEqDiff, Nat.reduceSub, hcell]
    have hbs : bsC Try.prog 22 1 [(0, Value.slice xa xn xc)] = some (24, #[Value.slice xa xn xc]) := bsC_one (z := .slice Option.none 0 0) rfl rfl rfl rfl rfl
    unfold bsL bsK
    rw [hbs]
    simp only []
    have hbn := new_block A2 (.cells #[Value.slice xa xn xc] 24 (0, 0))
    have hE3 := Ext.alloc A2 (.cells #[Value.slice xa xn xc] 24 (0, 0))
    have hs3 := new_size A2 (.cells #[Value.slice xa xn xc] 24 (0, 0))
    revert hbn hE3 hs3
    generalize A2.alloc (.cells #[Value.slice xa xn xc] 24 (0, 0)) = A3
    intro hbn hE3 hs3
    try simp (disch := first | omega | assumption | rfl) only [↓reduceIte, go_sem, Nat.reduceLT, Nat.reduceEqDiff, Nat.reduceSub]
    refine op_append (P := Try.prog) (e := 24) (size := 1) (bytes := 24) (m := 1) (news := [Value.slice xa xn xc]) rfl rfl rfl rfl rfl rfl (by decide) (by first | (simp only [↓reduceIte, go_sem, Nat.reduceLT, Nat.reduceEqDiff, Nat.reduceSub]; done) | (simp only [↓reduceIte, go_sem, Nat.reduceLT, Nat.reduceEqDiff, Nat.reduceSub]; rfl)) (by first | (simp only [↓reduceIte, go_sem, Nat.reduceLT, Nat.reduceEqDiff, Nat.reduceSub]; done) | (simp only [↓reduceIte, go_sem, Nat.reduceLT, Nat.reduceEqDiff, Nat.reduceSub]; rfl)) (owns_keep hown2 hE3 (fun _ _ h => h)) ?_ ?_ ?_ ?_ (by omega) ?_
    · refine ⟨_, _, rfl, rfl, fun j hj => ?_⟩
      have : j = 0 := by simpa using hj
      subst this
      rw [adr_some]
      show A3.cell? _ = _
      rw [cell_of hbn]; rfl
    · intro q hq
      rw [List.mem_singleton.1 hq]; rfl
    · simp [maxLen]; omega
    · omega
    intro v' A4 hown4 hk4 ⟨_, hwhere⟩
    have hge : ∀ b, some b = (Value.slice sa sn sc).ownBlock → w1.heap.size + 2 ≤ b := fun b hb => own_ge hown2 hb
    have hb4 := (hk4.block _ (by have := (Array.getElem?_eq_some_iff.1 hb2).1; omega) (fun h => by have := hge _ h; omega)).trans ((hE3.block _ (Array.getElem?_eq_some_iff.1 hb2).1 (fun h => h)).trans hb2)
    have hov : one v' = true := by
      rcases hown4.2 with ⟨rfl, _⟩ | ⟨g, cap, cur, rfl, _⟩ <;> rfl
    try simp (disch := first | omega | assumption | rfl) only [↓reduceIte, go_sem, Nat.reduceLT, Nat.reduceEqDiff, Nat.reduceSub]
    refine st_one rfl rfl hov hb4 (by simp) (by simp) ?_
    intro A5 hs5 hb5 hk5
    refine hK _ _ ?_; clear hK hgd; clear K; try clear gd
    repeat (with_reducible first | refine W_seq ?_ | refine W_block ?_ | refine W_skip ?_ | refine W_ret ?_ | refine W_exit ?_ | refine thenQ_normal ?_ | refine thenQ_exit ?_ | refine thenQ_ret ?_ | refine blockQ_normal ?_ | refine blockQ_ret ?_ | refine blockQ_same ?_ | refine blockQ_other rfl ?_)
    have hs4 := hk4.size
    have hrows4 : NRows (w1.heap.size + 2) (fun b => U b ∨ some b = v'.ownBlock) A5 (vals ++ [Value.slice xa xn xc]) (pre ++ [x]) := by
      have hA4 : Keep (fun b => b = w.heap.size + 1 ∨ some b = (Value.slice sa sn sc).ownBlock) A2 A5 := ((hE3.keep).trans (hk4.mono (fun b _ hb => .inr hb))).trans (hk5.mono (fun b _ hb => .inl hb))
      have hnv2 : RowZ (w1.heap.size + 2) U A2 (.slice xa xn xc) (x.map vs) := by
        refine ⟨hnv.1.blocks (fun a n c hv => ?_), fun a n c hv => ?_⟩
        · obtain ⟨k1, k2, k3⟩ := hnv.2 a n c hv
          exact hA2.block _ k2 (by unfold two; omega)
        · obtain ⟨k1, k2, k3⟩ := hnv.2 a n c hv
          exact ⟨k1, by omega, k3⟩
      have hall : NRows (w1.heap.size + 2) U A2 (vals ++ [Value.slice xa xn xc]) (pre ++ [x]) := by
        refine ⟨by simp [hrows2.1], fun i h1 h2 => ?_⟩
        by_cases hi : i < vals.length
        · have hi' : i < pre.length := by rw [← hrows2.1]; exact hi
          rw [List.getElem_append_left hi, List.getElem_append_left hi']
          exact hrows2.2 i hi hi'
        · have e1 : i = vals.length := by simp at h1; omega
          have e2 : i = pre.length := by rw [e1, hrows2.1]
          have g1 : (vals ++ [Value.slice xa xn xc])[i] = .slice xa xn xc := by subst e1; simp
          have g2 : (pre ++ [x])[i] = x := by subst e2; simp
          rw [g1, g2]; exact hnv2
      refine hall.keep hA4 (fun b hb h1 _ => ?_) (fun b hb => ?_)
      · rcases hb with hb | hb
        · omega
        · exact hUv b hb
      · rcases hb with hb | hb
        · exact .inl hb
        · rcases hwhere b hb with h | h
          · exact .inl (hUv b h)
          · exact .inr (by omega)
    refine ⟨fun b => U b ∨ some b = v'.ownBlock, ⟨?_, v', _, hb5, ?_, hrows4, fun b hb => .inr hb⟩, ?_, ?_⟩
    · exact Keep.to_ext (Keep.to_ext (hEA2.trans hE3) rfl (fun b hb => by have := hge _ hb; omega) hk4) rfl (fun b hb => by omega) hk5
    · have := owns_keep hown4 hk5 (fun b hb => by omega)
      simpa using this
    · intro b hb
      rcases hb with hb | hb
      · exact .inl hb
      · rcases hwhere b hb with h | h
        · exact .inl (hUv b h)
        · refine .inr ⟨by omega, ?_⟩
          rcases hown4.2 with ⟨rfl, _⟩ | ⟨g, cap, cur, rfl, _, hg, _⟩
          · cases hb
          · cases hb
            have := (Array.getElem?_eq_some_iff.1 hg).1
            show g < _
            omega
    · exact ((hE3.keep).trans (hk4.mono (fun b _ hb => .inr (hUv b hb)))).trans (hk5.mono (fun b _ hb => .inl hb))
  · rintro xs U w4 rfl hsz4 hU ⟨hE4, v, vals, hb4, hown4, hrows, hUv⟩ hD
    have hcell : cellO w4 (some ⟨w.heap.size + 1, 0, Option.none⟩) = some v := by
      show w4.cell? _ = _
      rw [cell_of hb4]; rfl
    repeat (with_reducible first | refine W_seq ?_ | refine W_block ?_ | refine W_skip ?_ | refine W_ret ?_ | refine W_exit ?_ | refine thenQ_normal ?_ | refine thenQ_exit ?_ | refine thenQ_ret ?_ | refine blockQ_normal ?_ | refine blockQ_ret ?_ | refine blockQ_same ?_ | refine blockQ_other rfl ?_)
    refine W_reg (by rfl) ?_; intro gd K hgd hK
    try simp (disch := first | omega | assumption | rfl) only [↓reduceIte, go_sem, Nat.reduceLT, Nat.reduceEqDiff, Nat.reduceSub, hcell]
    refine Fn.mono (ClipN_ok (Row.of_owns hown4)) ?_
    rintro u w5 ⟨hu, hE5⟩
    try simp (disch := first | omega | assumption | rfl) only [↓reduceIte, go_sem, Nat.reduceLT, Nat.reduceEqDiff, Nat.reduceSub]
    refine hK _ _ ?_; clear hK hgd; clear K; try clear gd
    repeat (with_reducible first | refine W_seq ?_ | refine W_block ?_ | refine W_skip ?_ | refine W_ret ?_ | refine W_exit ?_ | refine thenQ_normal ?_ | refine thenQ_exit ?_ | refine thenQ_ret ?_ | refine blockQ_normal ?_ | refine blockQ_ret ?_ | refine blockQ_same ?_ | refine blockQ_other rfl ?_)
    refine ret_mark (by simp) rfl Try.ntmps12 (by simp only [↓reduceIte, go_sem, Nat.reduceLT, Nat.reduceEqDiff, Nat.reduceSub]; rfl) ((hE5.block _ (Array.getElem?_eq_some_iff.1 hD).1 (fun h => h)).trans hD) ?_
    intro w6 hk6 _
    have hD5 := (hE5.block _ (Array.getElem?_eq_some_iff.1 hD).1 (fun h => h)).trans hD
    refine ⟨Keep.to_ext (hE4.trans hE5) rfl (fun b hb => by omega) hk6, vals, hu.shut hD5 hk6, hrows.1, fun i h1 h2 => ?_⟩
    exact ((hrows.2 i h1 h2).1.ext hE5).shut hD5 hk6
end Go.Proofs.Ytciadbhnodgpgaa.T_int
