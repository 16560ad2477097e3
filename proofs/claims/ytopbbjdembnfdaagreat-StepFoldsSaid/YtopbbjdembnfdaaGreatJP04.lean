/-
  Texts of a proof, joined: K17, D3, SS0, SO, CQ, CQ2, K19, K20, K21, M5rr, SS1rec, SS2rec, SS3rec.
  Conditions: none.
-/
import Derived.Test.YtopbbjdembnfdaaGreatJP03
import Derived.Test.YtopbbjdembnfdaaGreatJP02
import Derived.Test.YtopbbjdembnfdaaGreatJP01
set_option linter.unusedVariables false
set_option linter.unusedSimpArgs false
set_option linter.defProp false
set_option linter.unnecessarySimpa false
namespace Go.Proofs.YtopbbjdembnfdaaGreat
open Go
structure OwnK (k B : Nat) (w : World) (e : TypeId) (v : Value) (L : List (List Value)) : Prop where
 own : w.ownsRow B e k v L.length L.flatten
 len : ∀ x ∈ L, x.length = k
 ones : ∀ x ∈ L, ∀ v ∈ x, one v = true
section
variable {P : Program} {d : Option Tmp} {ty : TypeId} {ps : String} {af : Array Edge} {g : Option (Nat × Bool)} {ρ : Operand → Value} {w : World} {K : Value → World → Prop}
theorem OwnK.nil (k B : Nat) (w : World) (e : TypeId) : OwnK k B w e (.slice Option.none 0 0) [] := ⟨⟨by simp, .inl ⟨rfl, rfl⟩⟩, fun x h => (by cases h), fun x h => (by cases h)⟩
theorem OwnK.ge {k B : Nat} {e : TypeId} {v : Value} {L : List (List Value)} (h : OwnK k B w e v L) {b : Nat} (hb : some b = v.ownBlock) : B ≤ b ∧ b < w.heap.size := by
 rcases h.own.2 with ⟨rfl, _⟩ | ⟨g, cap, cur, rfl, hg, hc, _⟩
 ·cases hb
 ·cases hb; exact ⟨hg, (Array.getElem?_eq_some_iff.1 hc).1⟩
theorem OwnK.keep {k B : Nat} {e : TypeId} {v : Value} {L : List (List Value)} {x : World} {S : Nat → Prop} (h : OwnK k B w e v L) (hk : Keep S w x) (hS : ∀ b, some b = v.ownBlock → ¬ S b) : OwnK k B x e v L := by
 obtain ⟨⟨h1, h2⟩, h3, h4⟩ := h
 refine ⟨⟨h1, ?_⟩, h3, h4⟩
 rcases h2 with h2 | ⟨g, cap, cur, hv, hb, hg, rest⟩
 ·exact .inl h2
 ·exact .inr ⟨g, cap, cur, hv, hb, (hk.block _ (Array.getElem?_eq_some_iff.1 hg).1 (hS _ (by rw [hv]; rfl))).trans hg, rest⟩
theorem OwnK.ext {k B : Nat} {e : TypeId} {v : Value} {L : List (List Value)} {x : World} (h : OwnK k B w e v L) (hk : Ext w x) : OwnK k B x e v L := h.keep hk (fun _ _ h => h)
theorem OwnK.mono {k B B' : Nat} {e : TypeId} {v : Value} {L : List (List Value)} (h : OwnK k B w e v L) (hB : B' ≤ B) : OwnK k B' w e v L := by
 obtain ⟨⟨h1, h2⟩, h3, h4⟩ := h
 refine ⟨⟨h1, ?_⟩, h3, h4⟩
 rcases h2 with h2 | ⟨g, cap, cur, hv, hb, rest⟩
 ·exact .inl h2
 ·exact .inr ⟨g, cap, cur, hv, by omega, rest⟩
theorem OwnK.cases {k B : Nat} {e : TypeId} {v : Value} {L : List (List Value)} (h : OwnK k B w e v L) :
  (v = .slice Option.none 0 0 ∧ L = []) ∨ ∃ b cap, v = .slice (some ⟨b, 0, Option.none⟩) L.length cap ∧ B ≤ b ∧ L.length ≤ cap ∧ cap ≤ maxLen ∧ SD k w b e cap L := by
 obtain ⟨⟨h1, h2⟩, h3, h4⟩ := h
 rcases h2 with ⟨rfl, h0⟩ | ⟨g, cap, cur, rfl, hg, hb, hn, hm, hcs, hx⟩
 ·exact .inl ⟨rfl, List.length_eq_zero_iff.1 h0⟩
 ·refine .inr ⟨g, cap, rfl, hg, hn, hm, ⟨cur, cur.toList.drop (L.length * k), hb, ?_, hcs⟩, h3, h4⟩
  rw [← hx, List.take_append_drop]
theorem OwnK.of_sd {k B b cap : Nat} {e : TypeId} {L : List (List Value)} (h : SD k w b e cap L) (hB : B ≤ b) (hc : L.length ≤ cap) (hm : cap ≤ maxLen) : OwnK k B w e (.slice (some ⟨b, 0, Option.none⟩) L.length cap) L := by
 obtain ⟨cur, R, hb, e1, e2⟩ := h.lies
 refine ⟨⟨flat_len_k h.len, .inr ⟨b, cap, cur, rfl, hB, hb, hc, hm, e2, ?_⟩⟩, h.len, h.ones⟩
 rw [e1, List.take_left' (flat_len_k h.len)]
theorem OwnK.rowK {k B : Nat} {e : TypeId} {v : Value} {L : List (List Value)} (h : OwnK k B w e v L) : RowK k w v L := by
 rcases h.cases with ⟨rfl, rfl⟩ | ⟨b, cap, rfl, _, hc, _, hD⟩
 ·exact ⟨Option.none, 0, rfl, Nat.le_refl _, fun j h => by simp at h⟩
 ·exact ⟨_, cap, rfl, hc, fun j hj => by rw [adr_some, Nat.zero_add]; exact hD.get hj⟩
theorem Src1.of_rowK {k : Nat} {u : Value} {L : List (List Value)} (h : RowK k w u L) (hk : ∀ x ∈ L, x.length = k) : Src1 w u L.length k L.flatten := by
 obtain ⟨a, c, rfl, hc, hl⟩ := h
 refine ⟨a, c, rfl, flat_len_k hk, fun j hj => ?_⟩
 rw [flat_len_k hk] at hj
 have hk0 : 0 < k := Nat.pos_of_ne_zero (fun h => by subst h; simp at hj)
 have hq : j / k < L.length := Nat.div_lt_of_lt_mul (by rw [Nat.mul_comm]; exact hj)
 obtain ⟨e1, e2⟩ := flat_at hk hq
 have hlen := hk L[j / k] (List.getElem_mem hq)
 have hr : j % k < L[j / k].length := by rw [hlen]; exact Nat.mod_lt _ hk0
 have hg := cellsO_get (hl (j / k) hq) hr
 have hj2 : j / k * k + j % k = j := by rw [Nat.mul_comm]; exact Nat.div_add_mod j k
 rw [adr_adr, hj2] at hg
 rw [hg]
 have : L.flatten[j]? = some L[j / k][j % k] := by
  rw [e1, List.append_assoc, List.getElem?_append_right (by rw [e2]; omega), List.getElem?_append_left (by rw [e2]; omega), e2]
  rw [show j - j / k * k = j % k from by omega]
  exact List.getElem?_eq_getElem hr
 rw [List.getElem?_eq_getElem (by rw [flat_len_k hk]; exact hj)] at this
 exact this.symm
theorem op_appK {k B : Nat} {s x : Operand} {t e : TypeId} {inf : TypeInfo} {z : Value} {bytes : Nat} {v u : Value} {L N : List (List Value)} (hown : OwnK k B w e v L) (hrow : RowK k w u N)
  (ht : tyU P t = some (.slice e)) (hi : P.info? e = some inf) (hz : inf.zero = some z)
  (hsize : inf.size = k) (hby : inf.bytes = bytes) (hzs : z.cells.size = k) (hk0 : 0 < k) (hv : ρ s = v) (hu : ρ x = u)
  (hl : ∀ x ∈ N, x.length = k) (h1 : ∀ x ∈ N, ∀ q ∈ x, one q = true) (hlen : L.length + N.length ≤ 100000000000) (hbytes : bytes ≤ 1000) (hB : B ≤ w.heap.size)
  (h : ∀ v' w', OwnK k B w' e v' (L ++ N) → (∀ w0, Ext w0 w → w0.heap.size ≤ B → Ext w0 w') → Keep (fun b => some b = v.ownBlock) w w' → (∀ b, some b = v'.ownBlock → some b = v.ownBlock ∨ w.heap.size ≤ b) → (v' = .slice Option.none 0 0 → v = .slice Option.none 0 0) → K v' w') :
  opW P ⟨d, .call ⟨.builtin .append, #[s, x], #[t, t]⟩, ty, ps, af, g⟩ ρ w K := by
 refine op_append (B := B) (m := N.length) (xs := L.flatten) (news := N.flatten) (n := L.length) ht hi hz hsize hby hzs hk0 hv hu hown.own (Src1.of_rowK hrow hl) ?_ (by simp [maxLen]; omega) ?_ hB ?_
 ·intro q hq
  obtain ⟨y, hy, hq⟩ := List.mem_flatten.1 hq
  exact h1 y hy q hq
 ·have : (L.length + N.length) * bytes ≤ 100000000000 * 1000 := Nat.mul_le_mul hlen hbytes
  omega
 ·intro v' w' ho hk hw
  refine h v' w' ⟨by simpa using ho, ?_, ?_⟩ (fun w0 hE hB0 => ?_) hk hw.2 (fun hv' => (hw.1.1 hv').1)
  ·intro y hy
   rcases List.mem_append.1 hy with hy | hy
   ·exact hown.len y hy
   ·exact hl y hy
  ·intro y hy
   rcases List.mem_append.1 hy with hy | hy
   ·exact hown.ones y hy
   ·exact h1 y hy
  ·exact Keep.to_ext hE rfl (fun b hb => by have := (hown.ge hb).1; omega) hk
theorem bs_nilK {k : Nat} {t e : TypeId} {z : Value} (hu : tyU P t = some (.slice e)) (hz : tyZ P e = some z) (hs : tyS P e = k) (hz1 : z.cells.size = k)
  (h : ∀ w1, Ext w w1 → w1.heap.size = w.heap.size + 1 → OwnK k w.heap.size w1 e (.slice (some ⟨w.heap.size, 0, Option.none⟩) 0 0) [] → K (.slice (some ⟨w.heap.size, 0, Option.none⟩) 0 0) w1) : bsL P t 0 [] w K .mk := by
 unfold bsL bsK
 have : bsC P t 0 [] = some (e, #[]) := by simp [bsC, hu, hz, hs, hz1, Instr.fill]
 rw [this]
 exact h _ (Ext.alloc w _) (new_size w _) ⟨⟨by simp, .inr ⟨w.heap.size, 0, #[], rfl, Nat.le_refl _, new_block w _, Nat.le_refl _, by decide, by simp, by simp⟩⟩, fun x h => (by cases h), fun x h => (by cases h)⟩
theorem sets_list : ∀ (l : List Value) (n : Nat) (cells : Array Value), n + l.length ≤ cells.size → ((l.zipIdx n).foldl (fun cs (x : Value × Nat) => cs.setIfInBounds (0 + x.2) x.1) cells).toList = cells.toList.take n ++ l ++ cells.toList.drop (n + l.length)
 | [], n, cells, _ => by simp
 | v :: l, n, cells, h => by
  simp only [List.length_cons] at h
  rw [List.zipIdx_cons, List.foldl_cons, sets_list l (n + 1) _ (by simp; omega)]
  rw [Nat.zero_add, Array.toList_setIfInBounds, List.take_set, List.drop_set_of_lt (by omega)]
  have hlt : n < cells.toList.length := by simp; omega
  rw [take_succ' hlt]
  have e1 : (cells.toList.take n).length = n := by rw [List.length_take]; omega
  rw [List.set_append_right _ _ (by omega), e1, Nat.sub_self, List.set_cons_zero]
  simp [Nat.add_assoc, Nat.add_comm 1]
theorem fill_agg {l : List Value} {k : Nat} {cells : Array Value} (hl : l.length = k) (hc : cells.size = k) :
  ∃ r, Instr.fill (fun i => some (i * k, k)) cells [(0, .agg l.toArray)] = some r ∧ r.toList = l := by
 refine ⟨(l.zipIdx 0).foldl (fun cs (x : Value × Nat) => cs.setIfInBounds (0 + x.2) x.1) cells, ?_, ?_⟩
 ·unfold Instr.fill
  have hcl : (Value.agg l.toArray).cells = l.toArray := rfl
  have c1 : (decide (l.toArray.size ≠ k) || decide (0 * k + l.toArray.size > cells.size)) = false := by simp [hl, hc]
  simp only [hcl]
  rw [if_neg (by rw [c1]; exact Bool.false_ne_true)]
  show some _ = some _
  congr 1
  rw [Nat.zero_mul]
  simp [Array.foldl_toList, ← Array.foldl_toList]
 ·rw [sets_list l 0 cells (by omega)]
  simp [hl, hc]
theorem bs_oneK {k : Nat} {t e : TypeId} {z : Value} {l : List Value} (hu : tyU P t = some (.slice e)) (hz : tyZ P e = some z) (hs : tyS P e = k) (hz1 : z.cells.size = k) (hl : l.length = k) (hk : k ≤ 1000) (h1 : ∀ q ∈ l, one q = true)
  (h : ∀ w1, Ext w w1 → w1.heap.size = w.heap.size + 1 → OwnK k w.heap.size w1 e (.slice (some ⟨w.heap.size, 0, Option.none⟩) 1 1) [l] → K (.slice (some ⟨w.heap.size, 0, Option.none⟩) 1 1) w1) : bsL P t 1 [(0, .agg l.toArray)] w K .mk := by
 unfold bsL bsK
 obtain ⟨r, hr1, hr2⟩ := fill_agg (cells := (Array.range (1 * k)).map (z.cells[· % z.cells.size]!)) hl (by simp)
 have : bsC P t 1 [(0, .agg l.toArray)] = some (e, r) := by
  unfold bsC
  rw [hu]
  simp only [hz, hs]
  have c1 : (decide (1 * k ≤ 2 ^ 24) && decide (z.cells.size = k)) = true := by rw [hz1]; simp; omega
  rw [c1, cond_true, hr1]; rfl
 rw [this]
 have hsz : r.size = k := by rw [← hl, ← hr2]; simp
 exact h _ (Ext.alloc w _) (new_size w _) ⟨⟨by simp [hl], .inr ⟨w.heap.size, 1, r, rfl, Nat.le_refl _, new_block w _, Nat.le_refl _, by decide, by simpa using hsz, by rw [hr2]; simp [← hl]⟩⟩, fun x h => (by rw [List.mem_singleton.1 h]; exact hl), fun x h => (by rw [List.mem_singleton.1 h]; exact h1)⟩
theorem ret_cell {fn : Func} {n : Nat} {σ : Sto} {R : Value → World → Prop} {e : Exit} (he : e = .normal ∨ e = .ret) {t : Tmp} {tt : TypeId} {x : Addr} {l : List Value} (hl : fn.results.toList = [.cell t tt]) (hm : fn.ntmps = n) (hv : ev n σ (.tmp t) = .pointer (some x))
  (hA : tyA P tt = true) {k : Nat} (hk : tyS P tt = k) (hc : cellsO w (some x) k = some l) (h : R (.agg l.toArray) w) : retQ P fn R e σ [] w := by
 subst hm hk
 refine ret_plain he hl (rs := [.agg l.toArray]) ?_ h
 unfold resV
 rw [show (if t < fn.ntmps then σ t else undef) = .pointer (some x) from hv]
 have : ldV P w tt x = some (.agg l.toArray) := by
  unfold ldV
  rw [hA, cond_true, show cellsV w x 0 (tyS P tt) = some l from hc]; rfl
 simp only [this, resV]
theorem alloc_two (w : World) (A B : Obj) : Ext w ((w.alloc A).alloc B) ∧ ((w.alloc A).alloc B).heap.size = w.heap.size + 2 ∧ ((w.alloc A).alloc B).heap[w.heap.size]? = some A ∧ ((w.alloc A).alloc B).heap[w.heap.size + 1]? = some B := by
 have s1 := new_size w A
 have s2 := new_size (w.alloc A) B
 have b1 := new_block w A
 have b2 := new_block (w.alloc A) B
 rw [s1] at s2 b2
 exact ⟨(Ext.alloc w A).trans (Ext.alloc _ B), s2, (RowKit.Below.heap_alloc _ B _ (by rw [s1]; omega)).trans b1, b2⟩
theorem alloc_three (w : World) (A B C : Obj) : Ext w (((w.alloc A).alloc B).alloc C) ∧ (((w.alloc A).alloc B).alloc C).heap.size = w.heap.size + 3 ∧ (((w.alloc A).alloc B).alloc C).heap[w.heap.size]? = some A ∧ (((w.alloc A).alloc B).alloc C).heap[w.heap.size + 1]? = some B ∧ (((w.alloc A).alloc B).alloc C).heap[w.heap.size + 2]? = some C := by
 obtain ⟨h1, h2, h3, h4⟩ := alloc_two w A B
 have s3 := new_size ((w.alloc A).alloc B) C
 have b3 := new_block ((w.alloc A).alloc B) C
 rw [h2] at s3 b3
 exact ⟨h1.trans (Ext.alloc _ C), s3, (RowKit.Below.heap_alloc _ C _ (by rw [h2]; omega)).trans h3, (RowKit.Below.heap_alloc _ C _ (by rw [h2]; omega)).trans h4, b3⟩
theorem eqIn_sl {t e : TypeId} (h : P.underlying t = some (.slice e)) (n : Nat) (a : Option Addr) (l c : Nat) :
  (Op.equalIn (n + 1) t (.slice a l c) (.slice Option.none 0 0)).run P w = .ok a.isNone w := by
 cases a <;> simp [Op.equalIn, underlying, program, Sem.run, h]
theorem eql_nil {t e yt : TypeId} {x y : Operand} {a : Option Addr} {n c : Nat} (ht : tyU P t = some (.slice e)) (hx : ρ x = .slice a n c) (hy : ρ y = .slice Option.none 0 0) (h : K (.bool a.isNone) w) :
  opW P ⟨d, .binOp .eql t x y yt, ty, ps, af, g⟩ ρ w K := by
 have h2 : (Op.equal t (.slice a n c) (.slice Option.none 0 0)).run P w = .ok a.isNone w := eqIn_sl (show P.underlying t = _ from ht) 9999 a n c
 have hr : (do eqGuard .eql t x y (.slice a n c) (.slice Option.none 0 0); binOp .eql t (.slice a n c) (.slice Option.none 0 0) : Sem Value).run P w = .ok (.bool a.isNone) w := by
  simp [eqGuard, binOp, h2]
 have := opR_val (P := P) (K := K) hr h
 rw [← hx, ← hy] at this
 exact this
end
set_option maxRecDepth 10000
def minT (a b : RecL) : RecL := { a with ttl := min a.ttl b.ttl }
theorem LeastTtl_ok (w : World) (ca cb : List Value) (a b : RecL) (ha : RecAt w ca a) (hb : RecAt w cb b) :
  Fn Tryz.prog 138 #[.agg ca.toArray, .agg cb.toArray] w (fun v w' => v = .agg (ca.set 1 (v32 (min a.ttl b.ttl))).toArray ∧ Ext w w') := by
 obtain ⟨ow, ds, rfl, a1, a2⟩ := ha.ex
 obtain ⟨ow2, ds2, rfl, b1, b2⟩ := hb.ex
 have a2' := a2
 obtain ⟨nm, nu, tx, rw', rfl, n1, n2, n3, n4⟩ := a2.ex
 obtain ⟨nm2, nu2, tx2, rw2, rfl, _⟩ := b2.ex
 refine enter Tryz.func138 Tryz.ntmps138 rfl rfl ?_
 repeat refine c_r ?_
 refine rg0 ?_
 repeat refine c_r ?_
 have hal := alloc_three w (.cells #[ow, v32 a.ttl, vi a.dat.ty, nm, nu, tx, rw'] 110 (0, 0)) (.cells #[ow2, v32 b.ttl, vi b.dat.ty, nm2, nu2, tx2, rw2] 110 (0, 0)) (.cells #[.slice Option.none 0 0, v32 0, vi 0, .slice Option.none 0 0, .slice Option.none 0 0, .slice Option.none 0 0, .slice Option.none 0 0] 110 (0, 0))
 rw [show (w.alloc (.cells #[ow, v32 a.ttl, vi a.dat.ty, nm, nu, tx, rw'] 110 (0, 0))).heap.size = w.heap.size + 1 from new_size _ _, show ((w.alloc (.cells #[ow, v32 a.ttl, vi a.dat.ty, nm, nu, tx, rw'] 110 (0, 0))).alloc (.cells #[ow2, v32 b.ttl, vi b.dat.ty, nm2, nu2, tx2, rw2] 110 (0, 0))).heap.size = w.heap.size + 2 from (alloc_two w _ _).2.1]
 revert hal
 generalize ((w.alloc (.cells #[ow, v32 a.ttl, vi a.dat.ty, nm, nu, tx, rw'] 110 (0, 0))).alloc (.cells #[ow2, v32 b.ttl, vi b.dat.ty, nm2, nu2, tx2, rw2] 110 (0, 0))).alloc (.cells #[.slice Option.none 0 0, v32 0, vi 0, .slice Option.none 0 0, .slice Option.none 0 0, .slice Option.none 0 0, .slice Option.none 0 0] 110 (0, 0)) = w1
 rintro ⟨hE, hs, hA, hB, hC⟩
 have p1 : cellO w1 (some ⟨w.heap.size, 1, Option.none⟩) = some (v32 a.ttl) := cellO_at hA rfl
 have q1 : cellO w1 (some ⟨w.heap.size + 1, 1, Option.none⟩) = some (v32 b.ttl) := cellO_at hB rfl
 refine rq ?_; intro gd K hgd hK
 try simp (disch := first | omega | assumption | rfl) only [↓reduceIte, go_sem, Nat.reduceLT, Nat.reduceEqDiff, Nat.reduceSub, p1, q1, Nat.add_zero]
 refine op_min (by rfl) (by rfl) ?_
 try simp (disch := first | omega | assumption | rfl) only [↓reduceIte, go_sem, Nat.reduceLT, Nat.reduceEqDiff, Nat.reduceSub]
 refine st_one rfl rfl rfl hA (by simp) (by simp) ?_
 intro w2 hs2 hb2 hk2
 try simp (disch := first | omega | assumption | rfl) only [↓reduceIte, go_sem, Nat.reduceLT, Nat.reduceEqDiff, Nat.reduceSub]
 refine hK _ _ ?_; clear hK hgd; clear K; try clear gd
 repeat refine c_r ?_
 have hE2 : Ext w w2 := Keep.to_ext hE rfl (fun i hi => by omega) hk2
 have r7 : cellsO w2 (some ⟨w.heap.size, 0, Option.none⟩) 7 = some [ow, v32 (min a.ttl b.ttl), vi a.dat.ty, nm, nu, tx, rw'] := cellsO_block hb2 (Nat.le_refl 7)
 have hC2 := (hk2.block _ (Array.getElem?_eq_some_iff.1 hC).1 (by omega)).trans hC
 refine rq ?_; intro gd K hgd hK
 try simp (disch := first | omega | assumption | rfl) only [↓reduceIte, go_sem, Nat.reduceLT, Nat.reduceEqDiff, Nat.reduceSub, r7]
 have hSD : SD 7 w2 (w.heap.size + 2) 110 1 [[.slice Option.none 0 0, v32 0, vi 0, .slice Option.none 0 0, .slice Option.none 0 0, .slice Option.none 0 0, .slice Option.none 0 0]] :=
  ⟨⟨_, [], hC2, rfl, rfl⟩, fun x h => (by rw [List.mem_singleton.1 h]; rfl), fun x h v hv => (by rw [List.mem_singleton.1 h] at hv; simp at hv; rcases hv with rfl | rfl | rfl | rfl <;> rfl)⟩
 have hone : ∀ q ∈ [ow, v32 (min a.ttl b.ttl), vi a.dat.ty, nm, nu, tx, rw'], one q = true := by
  obtain ⟨o1, o2, rfl, _⟩ := a1
  obtain ⟨_, ⟨o3, o4, rfl, _⟩, _⟩ := n1
  obtain ⟨o5, o6, rfl, _⟩ := n2
  obtain ⟨o7, o8, rfl, _⟩ := n3
  obtain ⟨o9, o10, rfl, _⟩ := n4
  intro q hq
  simp at hq
  rcases hq with rfl | rfl | rfl | rfl | rfl | rfl | rfl <;> rfl
 refine SD.set (P := Tryz.prog) (t := 110) hSD (j := 0) (by simp) (x := [ow, v32 (min a.ttl b.ttl), vi a.dat.ty, nm, nu, tx, rw']) rfl hone rfl rfl ?_
 intro w3 hs3 hL3 hk3
 try simp (disch := first | omega | assumption | rfl) only [↓reduceIte, go_sem, Nat.reduceLT, Nat.reduceEqDiff, Nat.reduceSub]
 refine hK _ _ ?_; clear hK hgd; clear K; try clear gd
 repeat refine c_r ?_
 have hE3 : Ext w w3 := Keep.to_ext hE2 rfl (fun i hi => by omega) hk3
 have r9 := hL3.get (j := 0) (by simp)
 refine ret_cell (by simp) rfl Tryz.ntmps138 (vq0) rfl rfl r9 ?_
 exact ⟨rfl, hE3⟩
theorem RecAt.minT {w : World} {ca : List Value} {a b : RecL} (h : RecAt w ca a) : RecAt w (ca.set 1 (v32 (min a.ttl b.ttl))) (minT a b) := by
 obtain ⟨ow, ds, rfl, h1, h2⟩ := h.ex
 exact ⟨ow, ds, rfl, h1, h2⟩
section
variable {α : Type}
theorem set_mid (A B : List α) (x y : α) : (A ++ x :: B).set A.length y = A ++ y :: B := by
 rw [List.set_append_right _ _ (Nat.le_refl _), Nat.sub_self, List.set_cons_zero]
theorem get_mid (A B : List α) (x : α) : (A ++ x :: B)[A.length]? = some x := by simp
theorem swap_two (A M B : List α) (x y : α) {i j : Nat} (hi : i = A.length) (hj : j = A.length + 1 + M.length) : ((A ++ x :: M ++ y :: B).set i y).set j x = A ++ y :: M ++ x :: B := by
 subst hi hj
 have e1 : (A ++ x :: M ++ y :: B).set A.length y = A ++ y :: M ++ y :: B := by
  have := set_mid A (M ++ y :: B) x y
  simpa using this
 rw [e1]
 have := set_mid (A ++ y :: M) B y x
 rwa [show (A ++ y :: M).length = A.length + 1 + M.length from by simp; omega] at this
def swapAt (A X M Y B : List α) (i : Nat) : List α := A ++ (Y.take i ++ X.drop i) ++ M ++ (X.take i ++ Y.drop i) ++ B
theorem swapAt_step {A X M Y B : List α} {i : Nat} (hX : i < X.length) (hY : i < Y.length) :
  ((swapAt A X M Y B i).set (A.length + i) Y[i]).set (A.length + X.length + M.length + i) X[i] = swapAt A X M Y B (i + 1) ∧
  (swapAt A X M Y B i)[A.length + i]? = some X[i] ∧ (swapAt A X M Y B i)[A.length + X.length + M.length + i]? = some Y[i] := by
 have e0 : swapAt A X M Y B i = (A ++ Y.take i) ++ X[i] :: (X.drop (i + 1) ++ M ++ X.take i) ++ Y[i] :: (Y.drop (i + 1) ++ B) := by
  unfold swapAt
  rw [List.drop_eq_getElem_cons hX, List.drop_eq_getElem_cons hY]
  simp only [List.append_assoc, List.cons_append]
 have l1 : (A ++ Y.take i).length = A.length + i := by simp; omega
 have l2 : (X.drop (i + 1) ++ M ++ X.take i).length = X.length - (i + 1) + M.length + i := by simp; omega
 refine ⟨?_, ?_, ?_⟩
 ·rw [e0, swap_two (A ++ Y.take i) _ _ X[i] Y[i] (by omega) (by omega)]
  unfold swapAt
  rw [take_succ' hX, take_succ' hY]
  simp only [List.append_assoc, List.cons_append, List.nil_append]
 ·rw [e0, ← l1, List.append_assoc]
  have := get_mid (A ++ Y.take i) (X.drop (i + 1) ++ M ++ X.take i ++ Y[i] :: (Y.drop (i + 1) ++ B)) X[i]
  simpa using this
 ·rw [e0]
  have := get_mid (A ++ Y.take i ++ X[i] :: (X.drop (i + 1) ++ M ++ X.take i)) (Y.drop (i + 1) ++ B) Y[i]
  rw [show (A ++ Y.take i ++ X[i] :: (X.drop (i + 1) ++ M ++ X.take i)).length = A.length + X.length + M.length + i from by rw [List.length_append, List.length_cons, l1, l2]; omega] at this
  exact this
theorem swapAt_end {A X M Y B : List α} {n : Nat} (hX : X.length = n) (hY : Y.length = n) : swapAt A X M Y B n = A ++ Y ++ M ++ X ++ B := by
 unfold swapAt
 rw [List.take_of_length_le (by omega), List.take_of_length_le (by omega), List.drop_of_length_le (by omega), List.drop_of_length_le (by omega)]
 simp
theorem swapAt_start (A X M Y B : List α) : swapAt A X M Y B 0 = A ++ X ++ M ++ Y ++ B := by simp [swapAt]
theorem swapAt_len {A X M Y B : List α} {i : Nat} (hi : i ≤ X.length) (h : X.length = Y.length) : (swapAt A X M Y B i).length = (A ++ X ++ M ++ Y ++ B).length := by
 simp [swapAt]; omega
end
structure Older {α : Type} (cf : α → α → Int) (lt older : α → α → Prop) : Prop where
 trans : ∀ {a b c}, lt a b → lt b c → lt a c
 less : ∀ {x y}, older x y → cf y x < 0 → lt y x
 more : ∀ {x y}, older x y → ¬ cf y x < 0 → lt x y
section
variable {α : Type} {lt : α → α → Prop}
theorem pw_get {l : List α} (h : l.Pairwise lt) {i j : Nat} {x y : α} (hx : l[i]? = some x) (hy : l[j]? = some y) (hij : i < j) : lt x y := by
 obtain ⟨h1, rfl⟩ := List.getElem?_eq_some_iff.1 hx
 obtain ⟨h2, rfl⟩ := List.getElem?_eq_some_iff.1 hy
 exact List.pairwise_iff_getElem.1 h i j h1 h2 hij
structure Cut (lt : α → α → Prop) (x : α) (Y : List α) (s e : Nat) : Prop where
 lo : ∀ i y, i < s → Y[i]? = some y → lt y x
 hi : ∀ i y, e ≤ i → Y[i]? = some y → lt x y
theorem Cut.start (x : α) (Y : List α) : Cut lt x Y 0 Y.length :=
 ⟨fun i y h => absurd h (Nat.not_lt_zero _), fun i y h hy => by rw [List.getElem?_eq_none h] at hy; cases hy⟩
theorem Cut.up {x : α} {Y : List α} {s e h : Nat} {y : α} (ht : ∀ {a b c}, lt a b → lt b c → lt a c) (hY : Y.Pairwise lt) (hc : Cut lt x Y s e) (hy : Y[h]? = some y) (hl : lt y x) : Cut lt x Y (h + 1) e :=
 ⟨fun i z hi hz => by
  by_cases hih : i = h
  ·subst hih; rw [hy] at hz; cases hz; exact hl
  ·exact ht (pw_get hY hz hy (by omega)) hl, hc.hi⟩
theorem Cut.down {x : α} {Y : List α} {s e h : Nat} {y : α} (ht : ∀ {a b c}, lt a b → lt b c → lt a c) (hY : Y.Pairwise lt) (hc : Cut lt x Y s e) (hy : Y[h]? = some y) (hl : lt x y) : Cut lt x Y s h :=
 ⟨hc.lo, fun i z hi hz => by
  by_cases hih : i = h
  ·subst hih; rw [hy] at hz; cases hz; exact hl
  ·exact ht hl (pw_get hY hy hz (by omega))⟩
theorem Cut.sorted {x : α} {Y : List α} {s : Nat} (ht : ∀ {a b c}, lt a b → lt b c → lt a c) (hY : Y.Pairwise lt) (hc : Cut lt x Y s s) : (Y.take s ++ x :: Y.drop s).Pairwise lt := by
 rw [List.pairwise_append]
 have h1 : ∀ y ∈ Y.take s, lt y x := fun y hy => by
  obtain ⟨i, hi, rfl⟩ := List.getElem_of_mem hy
  have hi' := hi
  rw [List.length_take] at hi'
  refine hc.lo i _ (by omega) ?_
  rw [List.getElem_take, List.getElem?_eq_getElem]
 have h2 : ∀ y ∈ Y.drop s, lt x y := fun y hy => by
  obtain ⟨i, hi, rfl⟩ := List.getElem_of_mem hy
  have hi' := hi
  rw [List.length_drop] at hi'
  refine hc.hi (s + i) _ (by omega) ?_
  rw [List.getElem_drop, List.getElem?_eq_getElem]
 refine ⟨hY.sublist (List.take_sublist _ _), List.pairwise_cons.2 ⟨h2, hY.sublist (List.drop_sublist _ _)⟩, fun y hy z hz => ?_⟩
 rcases List.mem_cons.1 hz with rfl | hz
 ·exact h1 y hy
 ·exact ht (h1 y hy) (h2 z hz)
theorem cross {X Y : List α} {s t : Nat} (ht : ∀ {a b c}, lt a b → lt b c → lt a c) (hX : X.Pairwise lt) (hY : Y.Pairwise lt)
  (h : s = 0 ∨ t = Y.length ∨ ∃ x y, X[s - 1]? = some x ∧ Y[t]? = some y ∧ lt x y) : ∀ x ∈ X.take s, ∀ y ∈ Y.drop t, lt x y := by
 intro x hx y hy
 obtain ⟨i, hi, rfl⟩ := List.getElem_of_mem hx
 obtain ⟨j, hj, rfl⟩ := List.getElem_of_mem hy
 rw [List.length_take] at hi
 rw [List.length_drop] at hj
 rcases h with h | h | ⟨u, v, hu, hv, huv⟩
 ·omega
 ·omega
 ·rw [List.getElem_take, List.getElem_drop]
  have gx : X[i]? = some X[i] := List.getElem?_eq_getElem (by omega)
  have gy : Y[t + j]? = some Y[t + j] := List.getElem?_eq_getElem (by omega)
  have h1 : lt X[i] v := by
   by_cases hi1 : i = s - 1
   ·subst hi1; rw [hu] at gx; cases gx; exact huv
   ·exact ht (pw_get hX gx hu (by omega)) huv
  rcases Nat.eq_zero_or_pos j with hj0 | hj0
  ·have gv : Y[t + j]? = some v := by rw [hj0]; exact hv
   rw [gy] at gv
   rw [Option.some.inj gv]; exact h1
  ·exact ht h1 (pw_get hY hv gy (by omega))
theorem sorted_four {X1 X2 Y1 Y2 Z1 Z2 : List α} (hX : (X1 ++ X2).Pairwise lt) (hY : (Y1 ++ Y2).Pairwise lt) (c1 : ∀ x ∈ X1, ∀ y ∈ Y2, lt x y) (c2 : ∀ y ∈ Y1, ∀ x ∈ X2, lt y x)
  (p1 : Z1.Perm (X1 ++ Y1)) (p2 : Z2.Perm (X2 ++ Y2)) (s1 : Z1.Pairwise lt) (s2 : Z2.Pairwise lt) : (Z1 ++ Z2).Pairwise lt ∧ (Z1 ++ Z2).Perm ((X1 ++ X2) ++ (Y1 ++ Y2)) := by
 rw [List.pairwise_append] at hX hY
 constructor
 ·rw [List.pairwise_append]
  refine ⟨s1, s2, fun a ha b hb => ?_⟩
  rcases List.mem_append.1 (p1.mem_iff.1 ha) with ha | ha
  ·rcases List.mem_append.1 (p2.mem_iff.1 hb) with hb | hb
   ·exact hX.2.2 a ha b hb
   ·exact c1 a ha b hb
  ·rcases List.mem_append.1 (p2.mem_iff.1 hb) with hb | hb
   ·exact c2 a ha b hb
   ·exact hY.2.2 a ha b hb
 ·refine (p1.append p2).trans ?_
  rw [List.append_assoc, List.append_assoc]
  refine List.Perm.append_left X1 ?_
  rw [← List.append_assoc, ← List.append_assoc]
  exact List.Perm.append_right Y2 List.perm_append_comm
end
structure Cpr {α : Type} (cf : α → α → Int) : Prop where
 neg : ∀ a b, cf b a = - cf a b
 trans : ∀ {a b c}, cf a b < 0 → cf b c < 0 → cf a c < 0
 eql : ∀ {a b c}, cf a b = 0 → cf a c = cf b c
section
variable {α β : Type}
theorem Cpr.eqr {cf : α → α → Int} (h : Cpr cf) {a b c : α} (e : cf a b = 0) : cf c a = cf c b := by
 have h1 := h.neg a c
 have h2 := h.neg b c
 have h3 := h.eql (c := c) e
 omega
theorem Cpr.map {cf : β → β → Int} (h : Cpr cf) (f : α → β) : Cpr (fun a b => cf (f a) (f b)) := ⟨fun a b => h.neg _ _, fun h1 h2 => h.trans h1 h2, fun e => h.eql e⟩
theorem Cpr.const : Cpr (fun _ _ : α => 0) := ⟨fun _ _ => rfl, fun h _ => absurd h (by decide), fun _ => rfl⟩
theorem Cpr.or {c1 c2 : α → α → Int} (h1 : Cpr c1) (h2 : Cpr c2) : Cpr (fun a b => if c1 a b = 0 then c2 a b else c1 a b) := by
 refine ⟨fun a b => ?_, fun {a b c} g1 g2 => ?_, fun {a b c} e => ?_⟩
 ·have n1 := h1.neg a b
  have n2 := h2.neg a b
  (repeat' split) <;> omega
 ·by_cases e1 : c1 a b = 0
  ·rw [if_pos e1] at g1
   have e3 := h1.eql (c := c) e1
   by_cases e2 : c1 b c = 0
   ·rw [if_pos e2] at g2
    rw [if_pos (by omega)]
    exact h2.trans g1 g2
   ·rw [if_neg e2] at g2
    rw [if_neg (by omega)]; omega
  ·rw [if_neg e1] at g1
   by_cases e2 : c1 b c = 0
   ·have e3 := h1.eqr (c := a) e2
    rw [if_neg (by omega)]; omega
   ·rw [if_neg e2] at g2
    have := h1.trans g1 g2
    rw [if_neg (by omega)]; exact this
 ·by_cases e1 : c1 a b = 0
  ·rw [if_pos e1] at e
   rw [h1.eql (c := c) e1, h2.eql (c := c) e]
  ·rw [if_neg e1] at e; exact absurd e e1
theorem lex_neg {cf : α → α → Int} (h : Cpr cf) : ∀ a b : List α, lexC cf b a = - lexC cf a b
 | [], [] => rfl
 | [], _ :: _ => rfl
 | _ :: _, [] => rfl
 | x :: l, y :: m => by
  simp only [lexC]
  have n1 := h.neg x y
  have n2 := lex_neg h l m
  split <;> split <;> omega
theorem lex_trans {cf : α → α → Int} (h : Cpr cf) : ∀ {a b c : List α}, lexC cf a b < 0 → lexC cf b c < 0 → lexC cf a c < 0
 | [], [], _, h1, _ => absurd h1 (by simp [lexC])
 | _, [], [], _, h2 => absurd h2 (by simp [lexC])
 | _, _ :: _, [], _, h2 => absurd h2 (by simp [lexC])
 | _ :: _, [], _ :: _, h1, _ => absurd h1 (by simp [lexC])
 | [], _ :: _, _ :: _, _, _ => by simp [lexC]
 | x :: l, y :: m, z :: n, g1, g2 => by
  simp only [lexC] at g1 g2 ⊢
  by_cases e1 : cf x y = 0
  ·rw [if_pos e1] at g1
   have e3 := h.eql (c := z) e1
   by_cases e2 : cf y z = 0
   ·rw [if_pos e2] at g2
    rw [if_pos (by omega)]
    exact lex_trans h g1 g2
   ·rw [if_neg e2] at g2
    rw [if_neg (by omega)]; omega
  ·rw [if_neg e1] at g1
   by_cases e2 : cf y z = 0
   ·have e3 := h.eqr (c := x) e2
    rw [if_neg (by omega)]; omega
   ·rw [if_neg e2] at g2
    have := h.trans g1 g2
    rw [if_neg (by omega)]; exact this
theorem lex_eql {cf : α → α → Int} (h : Cpr cf) : ∀ {a b : List α} (c : List α), lexC cf a b = 0 → lexC cf a c = lexC cf b c
 | [], [], _, _ => rfl
 | [], _ :: _, _, h1 => absurd h1 (by simp [lexC])
 | _ :: _, [], _, h1 => absurd h1 (by simp [lexC])
 | _ :: _, _ :: _, [], _ => rfl
 | x :: l, y :: m, z :: n, e => by
  simp only [lexC] at e ⊢
  by_cases e1 : cf x y = 0
  ·rw [if_pos e1] at e
   rw [h.eql (c := z) e1, lex_eql h n e]
  ·rw [if_neg e1] at e; exact absurd e e1
theorem Cpr.lex {cf : α → α → Int} (h : Cpr cf) : Cpr (lexC cf) := ⟨lex_neg h, lex_trans h, fun e => lex_eql h _ e⟩
theorem cpr_I : Cpr cmpI := by
 refine ⟨fun a b => ?_, fun {a b c} h1 h2 => ?_, fun {a b c} e => ?_⟩
 ·simp only [cmpI]; (repeat' split) <;> omega
 ·simp only [cmpI] at *; (repeat' split at h1) <;> (repeat' split at h2) <;> (repeat' split) <;> omega
 ·have : a = b := by simp only [cmpI] at e; (repeat' split at e) <;> omega
  rw [this]
theorem cpr_N : Cpr cmpN := ⟨fun a b => cmpN_neg a b, fun h1 h2 => cmpN_trans h1 h2, fun e => by rw [cmpN_zero e]⟩
theorem cpr_F2 : Cpr cmpF2 := cpr_N.map foldN
theorem cpr_L : Cpr cmpL := ⟨fun a b => cmpL_neg a b, fun h1 h2 => cmpL_lt_trans h1 (by omega), fun e => by rw [cmpL_zero e]⟩
theorem cpr_D : Cpr cmpD := by
 have h := (cpr_I.map DatL.ty).or ((cpr_F2.lex.map DatL.names).or ((cpr_I.lex.map DatL.nums).or ((cpr_L.lex.map DatL.texts).or ((cpr_L.map DatL.raw).or Cpr.const))))
 exact h
theorem cpr_R : Cpr cmpRec := by
 have h := (cpr_F2.map RecL.owner).or ((cpr_I.map fun r : RecL => r.dat.ty).or ((cpr_D.map RecL.dat).or Cpr.const))
 exact h
end
section
variable {α : Type} (cf : α → α → Int) (jn : α → α → α)
def putC (r : α) : List α → List α
 | [] => [r]
 | x :: l => if cf x r < 0 then x :: putC r l else if cf x r = 0 then jn x r :: l else r :: x :: l
variable {cf jn}
structure Join (cf : α → α → Int) (jn : α → α → α) : Prop where
 same : ∀ a b c, cf a b = 0 → cf (jn a b) c = cf a c
theorem putC_all {Q : α → Prop} {r : α} {l : List α} (hj : ∀ x, Q x → cf x r = 0 → Q (jn x r)) (hr : Q r) (hl : ∀ x ∈ l, Q x) : ∀ x ∈ putC cf jn r l, Q x := by
 induction l with
 | nil => intro x hx; rw [List.mem_singleton.1 hx]; exact hr
 | cons y l ih =>
  intro x hx
  unfold putC at hx
  split at hx
  ·rcases List.mem_cons.1 hx with rfl | hx
   ·exact hl _ (List.mem_cons_self ..)
   ·exact ih (fun z hz => hl z (List.mem_cons_of_mem _ hz)) x hx
  ·split at hx
   ·rename_i h0
    rcases List.mem_cons.1 hx with rfl | hx
    ·exact hj y (hl y (List.mem_cons_self ..)) h0
    ·exact hl x (List.mem_cons_of_mem _ hx)
   ·rcases List.mem_cons.1 hx with rfl | hx
    ·exact hr
    ·exact hl x hx
theorem putC_sorted (hc : Cpr cf) (hj : Join cf jn) {r : α} : ∀ {l : List α}, l.Pairwise (fun a b => cf a b < 0) → (putC cf jn r l).Pairwise (fun a b => cf a b < 0)
 | [], _ => List.pairwise_singleton _ _
 | y :: l, h => by
  obtain ⟨h1, h2⟩ := List.pairwise_cons.1 h
  unfold putC
  split
  ·rename_i hy
   refine List.pairwise_cons.2 ⟨?_, putC_sorted hc hj h2⟩
   refine putC_all (Q := fun x => cf y x < 0) (fun x hx h0 => ?_) hy h1
   have := hj.same x r y h0
   have n1 := hc.neg y (jn x r)
   have n2 := hc.neg y x
   omega
  ·split
   ·rename_i h0
    refine List.pairwise_cons.2 ⟨fun x hx => ?_, h2⟩
    rw [hj.same y r x h0]; exact h1 x hx
   ·rename_i g1 g2
    refine List.pairwise_cons.2 ⟨fun x hx => ?_, h⟩
    have n1 := hc.neg y r
    have hry : cf r y < 0 := by omega
    rcases List.mem_cons.1 hx with rfl | hx
    ·exact hry
    ·exact hc.trans hry (h1 x hx)
theorem putC_comm (hc : Cpr cf) (hj : Join cf jn) {a b : α} (hab : cf a b < 0) : ∀ (l : List α), l.Pairwise (fun a b => cf a b < 0) → putC cf jn a (putC cf jn b l) = putC cf jn b (putC cf jn a l)
 | [], _ => by
  have n1 := hc.neg a b
  simp only [putC]
  rw [if_neg (by omega), if_neg (by omega), if_pos hab]
 | x :: l, h => by
  obtain ⟨h1, h2⟩ := List.pairwise_cons.1 h
  have n1 := hc.neg a b
  have n2 := hc.neg x a
  have n3 := hc.neg x b
  by_cases ea : cf x a < 0
  ·have eb : cf x b < 0 := hc.trans ea hab
   simp only [putC, if_pos ea, if_pos eb]
   rw [putC_comm hc hj hab l h2]
  ·by_cases ea0 : cf x a = 0
   ·have eb : cf x b < 0 := by rw [hc.eql (c := b) ea0]; exact hab
    have e2 := hj.same x a b ea0
    have e3 := hj.same x a a ea0
    simp only [putC]
    rw [if_pos eb, if_neg ea, if_pos ea0]
    simp only [putC]
    rw [if_neg ea, if_pos ea0, if_pos (by omega)]
   ·by_cases eb : cf x b < 0
    ·simp only [putC]
     rw [if_pos eb, if_neg ea, if_neg ea0]
     simp only [putC]
     rw [if_neg ea, if_neg ea0, if_pos hab, if_pos eb]
    ·by_cases eb0 : cf x b = 0
     ·have e2 := hj.same x b a eb0
      simp only [putC]
      rw [if_neg eb, if_pos eb0, if_neg ea, if_neg ea0]
      simp only [putC]
      rw [if_neg (by omega), if_neg (by omega), if_pos hab, if_neg eb, if_pos eb0]
     ·simp only [putC]
      rw [if_neg eb, if_neg eb0, if_neg ea, if_neg ea0]
      simp only [putC]
      rw [if_neg (by omega), if_neg (by omega), if_pos hab, if_neg eb, if_neg eb0]
end
section
variable {α β : Type} {cf : α → α → Int} {jn : α → α → α}
def foldC (cf : α → α → Int) (jn : α → α → α) (p : β → α) (l : List β) (acc : List α) : List α := l.foldl (fun acc r => putC cf jn (p r) acc) acc
theorem foldC_move (hc : Cpr cf) (hj : Join cf jn) {p : β → α} {r : β} {Z2 : List β} : ∀ (Z1 : List β) (acc : List α), (∀ z ∈ Z1, cf (p z) (p r) < 0) → acc.Pairwise (fun a b => cf a b < 0) →
  foldC cf jn p (Z1 ++ r :: Z2) acc = foldC cf jn p (Z1 ++ Z2) (putC cf jn (p r) acc)
 | [], _, _, _ => rfl
 | z :: Z1, acc, h, hs => by
  have ih := foldC_move hc hj (p := p) (r := r) (Z2 := Z2) Z1 (putC cf jn (p z) acc) (fun y hy => h y (List.mem_cons_of_mem _ hy)) (putC_sorted hc hj hs)
  have hcm := putC_comm hc hj (h z (List.mem_cons_self ..)) acc hs
  show foldC cf jn p (Z1 ++ r :: Z2) (putC cf jn (p z) acc) = foldC cf jn p (Z1 ++ Z2) (putC cf jn (p z) (putC cf jn (p r) acc))
  rw [ih, hcm]
theorem foldC_stable (hc : Cpr cf) (hj : Join cf jn) {p : β → α} {lt older : β → β → Prop} (hlt : ∀ {a b}, lt a b → cf (p a) (p b) < 0 ∨ older a b) (has : ∀ {a b}, older a b → ¬ older b a) :
  ∀ (D Z : List β) (acc : List α), D.Pairwise older → Z.Pairwise lt → Z.Perm D → acc.Pairwise (fun a b => cf a b < 0) → foldC cf jn p Z acc = foldC cf jn p D acc
 | [], Z, acc, _, _, hp, _ => by rw [hp.eq_nil]
 | r :: D, Z, acc, hD, hZ, hp, hs => by
  obtain ⟨d1, d2⟩ := List.pairwise_cons.1 hD
  obtain ⟨Z1, Z2, rfl⟩ := List.append_of_mem (hp.mem_iff.2 (List.mem_cons_self ..))
  have hp2 : (Z1 ++ Z2).Perm D := (List.perm_middle.symm.trans hp).cons_inv
  obtain ⟨z1, z2, z3⟩ := List.pairwise_append.1 hZ
  have hb : ∀ z ∈ Z1, cf (p z) (p r) < 0 := fun z hz => by
   rcases hlt (z3 z hz r (List.mem_cons_self ..)) with h | h
   ·exact h
   ·exact absurd h (has (d1 z (hp2.mem_iff.1 (List.mem_append_left _ hz))))
  rw [foldC_move hc hj Z1 acc hb hs]
  refine foldC_stable (lt := lt) (older := older) hc hj hlt has D (Z1 ++ Z2) (putC cf jn (p r) acc) d2 ?_ hp2 (putC_sorted hc hj hs)
  exact List.pairwise_append.2 ⟨z1, (List.pairwise_cons.1 z2).2, fun a ha b hb => z3 a ha b (List.mem_cons_of_mem _ hb)⟩
theorem putC_last {r x : α} : ∀ {O : List α}, (∀ y ∈ O, cf y r < 0) → ¬ 0 < cf x r → putC cf jn r (O ++ [x]) = if cf x r = 0 then O ++ [jn x r] else O ++ [x, r]
 | [], _, h => by
  simp only [List.nil_append, putC]
  by_cases h0 : cf x r = 0
  ·rw [if_neg (by omega), if_pos h0, if_pos h0]
  ·rw [if_pos (by omega), if_neg h0]
 | y :: O, hO, h => by
  have hy := hO y (List.mem_cons_self ..)
  have ih := putC_last (r := r) (x := x) (O := O) (fun z hz => hO z (List.mem_cons_of_mem _ hz)) h
  simp only [List.cons_append, putC]
  rw [if_pos hy, ih]
  split <;> rfl
end
/-! ### records -/
def canonL (l : List RecL) : List RecL := foldC cmpRec (fun a b => { a with ttl := min a.ttl b.ttl }) (fun r => r) l []
theorem join_R : Join cmpRec (fun a b => { a with ttl := min a.ttl b.ttl }) := ⟨fun _ _ _ _ => rfl⟩
section
variable {α : Type}
def Rows (k : Nat) (C : List Value → α → Prop) (w : World) (v : Value) (xs : List α) : Prop := ∃ L, RowK k w v L ∧ L.length = xs.length ∧ ∀ i (h : i < L.length) (h' : i < xs.length), C L[i] xs[i]
def Owns (k : Nat) (C : List Value → α → Prop) (B : Nat) (w : World) (e : TypeId) (v : Value) (xs : List α) : Prop := ∃ L, OwnK k B w e v L ∧ L.length = xs.length ∧ ∀ i (h : i < L.length) (h' : i < xs.length), C L[i] xs[i]
structure Shape (k : Nat) (C : List Value → α → Prop) : Prop where
 len : ∀ {cs : List Value} {a : α}, C cs a → cs.length = k
 ones : ∀ {cs : List Value} {a : α}, C cs a → ∀ q ∈ cs, one q = true
variable {k B : Nat} {C C' : List Value → α → Prop} {w x : World} {v : Value} {xs : List α} {e : TypeId}
theorem Rows.ext (h : Rows k C w v xs) (hE : Ext w x) : Rows k C x v xs := by
 obtain ⟨L, h1, h2, h3⟩ := h
 exact ⟨L, h1.ext hE, h2, h3⟩
theorem Rows.to (h : Rows k C w v xs) (hC : ∀ cs a, C cs a → C' cs a) : Rows k C' w v xs := by
 obtain ⟨L, h1, h2, h3⟩ := h
 exact ⟨L, h1, h2, fun i h h' => hC _ _ (h3 i h h')⟩
theorem Owns.ext (h : Owns k C B w e v xs) (hE : Ext w x) : Owns k C B x e v xs := by
 obtain ⟨L, h1, h2, h3⟩ := h
 exact ⟨L, h1.ext hE, h2, h3⟩
theorem Owns.keep {S : Nat → Prop} (h : Owns k C B w e v xs) (hk : Keep S w x) (hS : ∀ b, some b = v.ownBlock → ¬ S b) : Owns k C B x e v xs := by
 obtain ⟨L, h1, h2, h3⟩ := h
 exact ⟨L, h1.keep hk hS, h2, h3⟩
theorem Owns.rows (h : Owns k C B w e v xs) : Rows k C w v xs := by
 obtain ⟨L, h1, h2, h3⟩ := h
 exact ⟨L, h1.rowK, h2, h3⟩
theorem Owns.nil (k : Nat) (C : List Value → α → Prop) (B : Nat) (w : World) (e : TypeId) : Owns k C B w e (.slice Option.none 0 0) [] := ⟨[], OwnK.nil _ _ _ _, rfl, fun i h => absurd h (by simp)⟩
theorem Rows.nil (k : Nat) (C : List Value → α → Prop) (w : World) : Rows k C w (.slice Option.none 0 0) [] := (Owns.nil k C 0 w 0).rows
theorem Owns.mono {B' : Nat} (h : Owns k C B w e v xs) (hB : B' ≤ B) : Owns k C B' w e v xs := by
 obtain ⟨L, h1, h2, h3⟩ := h
 exact ⟨L, h1.mono hB, h2, h3⟩
theorem Owns.ge (h : Owns k C B w e v xs) {b : Nat} (hb : some b = v.ownBlock) : B ≤ b ∧ b < w.heap.size := by
 obtain ⟨L, h1, _⟩ := h
 exact h1.ge hb
theorem Rows.open (h : Rows k C w v xs) : ∃ a c, v = .slice a xs.length c ∧ xs.length ≤ c ∧ ∀ i (h : i < xs.length), ∃ cs, cellsO w (adr a (i * k)) k = some cs ∧ C cs xs[i] := by
 obtain ⟨L, ⟨a, c, rfl, hc, hg⟩, h2, h3⟩ := h
 refine ⟨a, c, by rw [h2], by omega, fun i hi => ⟨L[i]'(by omega), hg i (by omega), h3 i (by omega) hi⟩⟩
theorem lists_of {D : Nat → List Value → Prop} : ∀ (m : Nat), (∀ i, i < m → ∃ cs, D i cs) → ∃ L : List (List Value), L.length = m ∧ ∀ i (h : i < L.length), D i L[i]
 | 0, _ => ⟨[], rfl, fun i h => absurd h (by simp)⟩
 | m + 1, h => by
  obtain ⟨L, hl, hL⟩ := lists_of m (fun i hi => h i (by omega))
  obtain ⟨cs, h1⟩ := h m (by omega)
  refine ⟨L ++ [cs], by simp [hl], fun i hi => ?_⟩
  by_cases he : i < L.length
  ·rw [List.getElem_append_left he]; exact hL i he
  ·have hi0 : i = L.length := by simp at hi; omega
   have e1 : (L ++ [cs])[i] = cs := by simp [hi0]
   rw [e1, hi0, hl]; exact h1
theorem Rows.close {a : Option Addr} {c : Nat} (hc : xs.length ≤ c) (h : ∀ i (h : i < xs.length), ∃ cs, cellsO w (adr a (i * k)) k = some cs ∧ C cs xs[i]) : Rows k C w (.slice a xs.length c) xs := by
 obtain ⟨L, hl, hL⟩ := lists_of (D := fun i cs => ∀ h : i < xs.length, cellsO w (adr a (i * k)) k = some cs ∧ C cs xs[i]) xs.length (fun i hi => by
  obtain ⟨cs, h1⟩ := h i hi
  exact ⟨cs, fun _ => h1⟩)
 exact ⟨L, ⟨a, c, by rw [hl], by omega, fun i hi => (hL i hi (by omega)).1⟩, hl, fun i h h' => (hL i h h').2⟩
theorem all_app {L M : List (List Value)} {ys : List α} (hl : L.length = xs.length) (hm : M.length = ys.length) (h : ∀ q (h : q < L.length) (h' : q < xs.length), C L[q] xs[q]) (hM : ∀ q (h : q < M.length) (h' : q < ys.length), C M[q] ys[q]) :
  ∀ q (h : q < (L ++ M).length) (h' : q < (xs ++ ys).length), C (L ++ M)[q] (xs ++ ys)[q] := by
 intro q h1 h2
 by_cases hq : q < L.length
 ·rw [List.getElem_append_left hq, List.getElem_append_left (by omega)]; exact h q hq (by omega)
 ·have e1 : (L ++ M)[q] = M[q - L.length]'(by simp at h1; omega) := List.getElem_append_right (by omega)
  have e2 : (xs ++ ys)[q] = ys[q - L.length]'(by simp at h2; omega) := by rw [List.getElem_append_right (by omega)]; simp [hl]
  rw [e1, e2]; exact hM _ _ _
theorem Rows.drop {a : Option Addr} {c n : Nat} (h : Rows k C w (.slice a n c) xs) {m : Nat} (hm : m ≤ n) : Rows k C w (.slice (if c = m then a else adr a (m * k)) (n - m) (c - m)) (xs.drop m) := by
 obtain ⟨a', c', hv', hc, hg⟩ := h.open
 have e1 : a = a' := by injection hv'
 have e2 : n = xs.length := by injection hv'
 have e3 : c = c' := by injection hv'
 subst e1 e2 e3
 rw [show xs.length - m = (xs.drop m).length from (List.length_drop ..).symm]
 refine Rows.close (by rw [List.length_drop]; omega) (fun i hi => ?_)
 rw [List.length_drop] at hi
 obtain ⟨cs, h1, h2⟩ := hg (m + i) (by omega)
 refine ⟨cs, ?_, by rw [List.getElem_drop]; exact h2⟩
 rw [if_neg (by omega), adr_adr, ← Nat.add_mul]; exact h1
theorem Rows.take {a : Option Addr} {c n : Nat} (h : Rows k C w (.slice a n c) xs) {m c2 : Nat} (hm : m ≤ n) (hc2 : m ≤ c2) : Rows k C w (.slice a m c2) (xs.take m) := by
 obtain ⟨a', c', hv', hc, hg⟩ := h.open
 have e1 : a = a' := by injection hv'
 have e2 : n = xs.length := by injection hv'
 subst e1 e2
 have hl : (xs.take m).length = m := by rw [List.length_take]; omega
 have := Rows.close (k := k) (C := C) (w := w) (a := a) (c := c2) (xs := xs.take m) (by omega) (fun i hi => by
  rw [hl] at hi
  obtain ⟨cs, h1, h2⟩ := hg i (by omega)
  exact ⟨cs, h1, by rw [List.getElem_take]; exact h2⟩)
 rwa [hl] at this
theorem Rows.len {a : Option Addr} {c n : Nat} (h : Rows k C w (.slice a n c) xs) : n = xs.length ∧ xs.length ≤ c := by
 obtain ⟨a', c', hv', hc, hg⟩ := h.open
 have e2 : n = xs.length := by injection hv'
 have e3 : c = c' := by injection hv'
 exact ⟨e2, by omega⟩
theorem Rows.get {a : Option Addr} {c n : Nat} (h : Rows k C w (.slice a n c) xs) {i : Nat} (hi : i < xs.length) : ∃ cs, cellsO w (adr a (i * k)) k = some cs ∧ C cs xs[i] := by
 obtain ⟨a', c', hv', hc, hg⟩ := h.open
 have e1 : a = a' := by injection hv'
 subst e1
 exact hg i hi
theorem all_set {L : List (List Value)} {X : List Value} {m : α} {j : Nat} (hl : L.length = xs.length) (h : ∀ q (h : q < L.length) (h' : q < xs.length), C L[q] xs[q]) (hX : C X m) :
  ∀ q (h : q < (L.set j X).length) (h' : q < (xs.set j m).length), C (L.set j X)[q] (xs.set j m)[q] := by
 intro q h1 h2
 by_cases hq : j = q
 ·subst hq; rw [List.getElem_set_self, List.getElem_set_self]; exact hX
 ·rw [List.getElem_set_ne hq, List.getElem_set_ne hq]; exact h q (by simpa using h1) (by simpa using h2)
theorem Owns.cases (h : Owns k C B w e v xs) :
  (v = .slice Option.none 0 0 ∧ xs = []) ∨ ∃ b cap L, v = .slice (some ⟨b, 0, Option.none⟩) xs.length cap ∧ B ≤ b ∧ xs.length ≤ cap ∧ cap ≤ maxLen ∧ SD k w b e cap L ∧ L.length = xs.length ∧ ∀ i (h : i < L.length) (h' : i < xs.length), C L[i] xs[i] := by
 obtain ⟨L, h1, h2, h3⟩ := h
 rcases h1.cases with ⟨hv, h0⟩ | ⟨b, cap, hv, hb, hc, hm, hD⟩
 ·refine .inl ⟨hv, ?_⟩
  rw [h0] at h2
  exact List.length_eq_zero_iff.1 h2.symm
 ·exact .inr ⟨b, cap, L, by rw [hv, h2], hb, by omega, hm, hD, h2, h3⟩
theorem Owns.of_sd {b cap : Nat} {L : List (List Value)} (h : SD k w b e cap L) (hB : B ≤ b) (hc : xs.length ≤ cap) (hm : cap ≤ maxLen) (hl : L.length = xs.length) (h3 : ∀ i (h : i < L.length) (h' : i < xs.length), C L[i] xs[i]) :
  Owns k C B w e (.slice (some ⟨b, 0, Option.none⟩) xs.length cap) xs := by
 have := OwnK.of_sd h hB (by omega) hm
 rw [hl] at this
 exact ⟨L, this, hl, h3⟩
end
section
variable {P : Program} {d : Option Tmp} {ty : TypeId} {ps : String} {af : Array Edge} {g : Option (Nat × Bool)} {ρ : Operand → Value} {w : World} {K : Value → World → Prop} {α : Type} {k : Nat} {C : List Value → α → Prop}
theorem Ext.at {w x : World} (h : Ext w x) {b : Nat} {O : Obj} (hb : w.heap[b]? = some O) : x.heap[b]? = some O := (h.block _ (Array.getElem?_eq_some_iff.1 hb).1 (fun h => h)).trans hb
theorem W_alloc1 {f : Option Nat} {n : Nat} {c : Code} {Q : Post} {σ : Sto} {ds : List Deferred} {O : Obj} (h : ∀ w1, Ext w w1 → w1.heap.size = w.heap.size + 1 → w1.heap[w.heap.size]? = some O → W P f n c Q σ ds w1) : W P f n c Q σ ds (w.alloc O) :=
 h _ (Ext.alloc w O) (new_size w O) (new_block w O)
theorem W_alloc2 {f : Option Nat} {n : Nat} {c : Code} {Q : Post} {σ : Sto} {ds : List Deferred} {A B : Obj} (h : ∀ w1, Ext w w1 → w1.heap.size = w.heap.size + 2 → w1.heap[w.heap.size]? = some A → w1.heap[w.heap.size + 1]? = some B → W P f n c Q σ ds w1) : W P f n c Q σ ds ((w.alloc A).alloc B) := by
 obtain ⟨h1, h2, h3, h4⟩ := alloc_two w A B
 exact h _ h1 h2 h3 h4
theorem op_appR (hC : Shape k C) {B : Nat} {s x : Operand} {t e : TypeId} {inf : TypeInfo} {z : Value} {bytes : Nat} {v u : Value} {xs ys : List α} (hown : Owns k C B w e v xs) (hrow : Rows k C w u ys)
  (ht : tyU P t = some (.slice e)) (hi : P.info? e = some inf) (hz : inf.zero = some z)
  (hsize : inf.size = k) (hby : inf.bytes = bytes) (hzs : z.cells.size = k) (hk0 : 0 < k) (hv : ρ s = v) (hu : ρ x = u)
  (hlen : xs.length + ys.length ≤ 100000000000) (hbytes : bytes ≤ 1000) (hB : B ≤ w.heap.size)
  (h : ∀ v' w', Owns k C B w' e v' (xs ++ ys) → (∀ w0, Ext w0 w → w0.heap.size ≤ B → Ext w0 w') → Keep (fun b => some b = v.ownBlock) w w' → (∀ b, some b = v'.ownBlock → some b = v.ownBlock ∨ w.heap.size ≤ b) → K v' w') :
  opW P ⟨d, .call ⟨.builtin .append, #[s, x], #[t, t]⟩, ty, ps, af, g⟩ ρ w K := by
 obtain ⟨L, h1, h2, h3⟩ := hown
 obtain ⟨M, m1, m2, m3⟩ := hrow
 have hMl : ∀ x ∈ M, x.length = k := fun x hx => by
  obtain ⟨i, hi, rfl⟩ := List.getElem_of_mem hx
  exact hC.len (m3 i hi (by omega))
 have hM1 : ∀ x ∈ M, ∀ q ∈ x, one q = true := fun x hx => by
  obtain ⟨i, hi, rfl⟩ := List.getElem_of_mem hx
  exact hC.ones (m3 i hi (by omega))
 refine op_appK h1 m1 ht hi hz hsize hby hzs hk0 hv hu hMl hM1 (by omega) hbytes hB ?_
 intro v' w' ho hE hk hb _
 exact h v' w' ⟨L ++ M, ho, by simp [h2, m2], all_app h2 m2 h3 m3⟩ hE hk hb
theorem bs_oneR (hC : Shape k C) {t e : TypeId} {z : Value} {l : List Value} {a : α} (hu : tyU P t = some (.slice e)) (hz : tyZ P e = some z) (hs : tyS P e = k) (hz1 : z.cells.size = k) (hl : C l a) (hk : k ≤ 1000)
  (h : ∀ w1, Ext w w1 → w1.heap.size = w.heap.size + 1 → Owns k C w.heap.size w1 e (.slice (some ⟨w.heap.size, 0, Option.none⟩) 1 1) [a] → K (.slice (some ⟨w.heap.size, 0, Option.none⟩) 1 1) w1) : bsL P t 1 [(0, .agg l.toArray)] w K .mk := by
 refine bs_oneK hu hz hs hz1 (hC.len hl) hk (hC.ones hl) ?_
 intro w1 hE hsz ho
 refine h w1 hE hsz ⟨[l], ho, rfl, fun i h h' => ?_⟩
 have : i = 0 := by simp at h; omega
 subst this
 exact hl
end
theorem flat_set {k : Nat} {D : List (List Value)} (h : ∀ x ∈ D, x.length = k) {j i : Nat} (hj : j < D.length) (hi : i < k) (v : Value) : (D.set j (D[j].set i v)).flatten = D.flatten.set (j * k + i) v := by
 obtain ⟨e1, e2⟩ := flat_at h hj
 have hk := h D[j] (List.getElem_mem hj)
 have e3 : (D.set j (D[j].set i v)).flatten = (D.take j).flatten ++ D[j].set i v ++ (D.drop (j + 1)).flatten := by
  rw [List.set_eq_take_append_cons_drop, if_pos hj]; simp
 rw [e3, e1, List.append_assoc, List.append_assoc, List.set_append_right _ _ (by omega), e2, show j * k + i - j * k = i from by omega, List.set_append_left _ _ (by omega)]
theorem SD.setAt {k : Nat} {w : World} {b : Nat} {e : TypeId} {cap : Nat} {D : List (List Value)} (h : SD k w b e cap D) {P : Program} {t : TypeId} {K : Value → World → Prop} {j i : Nat} (hj : j < D.length) (hi : i < k) {v : Value} (hv : one v = true)
  (hs : tyS P t = 1) (hin : (P.info? t).isSome = true) (hK : ∀ w', w'.heap.size = w.heap.size → SD k w' b e cap (D.set j (D[j].set i v)) → Keep (fun i => i = b) w w' → K undef w') :
  stK P t (.pointer (some ⟨b, j * k + i, Option.none⟩)) v w K := by
 obtain ⟨cur, R, hb, hc, hsz⟩ := h.lies
 have hfl := flat_len_k h.len
 have hlt : j * k + i < D.flatten.length := by
  rw [hfl]
  have : (j + 1) * k ≤ D.length * k := Nat.mul_le_mul_right k hj
  rw [Nat.succ_mul] at this; omega
 have hcl : cur.size = D.flatten.length + R.length := by
  have := congrArg List.length hc
  simpa using this
 refine st_one hs hin hv hb (by omega) (by simp) ?_
 intro w' hs' hb' hk'
 refine hK w' hs' ⟨⟨_, R, hb', ?_, by simpa using hsz⟩, ?_, ?_⟩ hk'
 ·rw [Array.toList_setIfInBounds, hc, flat_set h.len hj hi, List.set_append_left _ _ hlt]
 ·intro y hy
  rcases List.mem_or_eq_of_mem_set hy with hy | rfl
  ·exact h.len y hy
  ·rw [List.length_set]; exact h.len _ (List.getElem_mem hj)
 ·intro y hy
  rcases List.mem_or_eq_of_mem_set hy with hy | rfl
  ·exact h.ones y hy
  ·intro q hq
   rcases List.mem_or_eq_of_mem_set hq with hq | rfl
   ·exact h.ones _ (List.getElem_mem hj) q hq
   ·exact hv
theorem cell_lt {w : World} {a : Addr} {v : Value} (h : w.cell? a = some v) : a.block < w.heap.size := by
 apply Classical.byContradiction
 intro hn
 unfold World.cell? at h
 rw [Array.getElem?_eq_none (by omega)] at h
 cases h
theorem cells_lt {w : World} {p : Option Addr} {k : Nat} {l : List Value} (h : cellsO w p k = some l) (hk : 0 < k) {a : Addr} (ha : p = some a) : a.block < w.heap.size := by
 subst ha
 have hl := cellsO_len h
 have h1 : cellsV w a 0 k = some l := h
 have := cell_lt (cellsV_get h1 0 (by omega))
 have e : (a.add (0 + 0)).block = a.block := by unfold Addr.add; split <;> rfl
 rwa [e] at this
theorem Rows.cut {α : Type} {k : Nat} {C : List Value → α → Prop} {w : World} {xs : List α} {a : Option Addr} {c n : Nat} (h : Rows k C w (.slice a n c) xs) {lo hi : Nat} (h1 : lo ≤ hi) (h2 : hi ≤ n) :
  Rows k C w (.slice (if c = lo then a else adr a (lo * k)) (hi - lo) (c - lo)) ((xs.drop lo).take (hi - lo)) := by
 have hl := h.len
 exact (h.drop (m := lo) (by omega)).take (by omega) (by omega)
section
variable {P : Program} {w : World} {K : Value → World → Prop} {α : Type} {k : Nat} {C : List Value → α → Prop}
theorem bs_nilR {t e : TypeId} {z : Value} (hu : tyU P t = some (.slice e)) (hz : tyZ P e = some z) (hs : tyS P e = k) (hz1 : z.cells.size = k)
  (h : ∀ w1, Ext w w1 → w1.heap.size = w.heap.size + 1 → Owns k C w.heap.size w1 e (.slice (some ⟨w.heap.size, 0, Option.none⟩) 0 0) ([] : List α) → K (.slice (some ⟨w.heap.size, 0, Option.none⟩) 0 0) w1) : bsL P t 0 [] w K .mk :=
 bs_nilK hu hz hs hz1 fun w1 h1 h2 h3 => h w1 h1 h2 ⟨[], h3, rfl, fun i h => absurd h (by simp)⟩
theorem cells_all {b n : Nat} {cur : Array Value} {e : TypeId} {fr : Nat × Nat} (h : w.heap[b]? = some (.cells cur e fr)) (hn : n = cur.size) : cellsO w (some ⟨b, 0, Option.none⟩) n = some cur.toList := by
 rw [cellsO_block h (by omega), List.drop_zero, List.take_of_length_le (by simp [hn])]
end
section
variable {α : Type} {k B : Nat} {C : List Value → α → Prop} {w x : World} {v : Value} {xs : List α} {e : TypeId}
theorem block_add (a : Addr) (i : Nat) : (a.add i).block = a.block := by unfold Addr.add; split <;> rfl
theorem cell_same {a : Addr} (h : x.heap[a.block]? = w.heap[a.block]?) : x.cell? a = w.cell? a := by unfold World.cell?; rw [h]
theorem cellsV_same {a : Addr} (h : x.heap[a.block]? = w.heap[a.block]?) : ∀ (k i : Nat), cellsV x a i k = cellsV w a i k
 | 0, _ => rfl
 | k + 1, i => by
  have e1 : x.cell? (a.add i) = w.cell? (a.add i) := cell_same (by rw [block_add]; exact h)
  have e2 := cellsV_same h k (i + 1)
  unfold cellsV
  rw [e1, e2]
theorem cellsO_same {p : Option Addr} (h : ∀ a, p = some a → x.heap[a.block]? = w.heap[a.block]?) (k : Nat) : cellsO x p k = cellsO w p k := by
 cases p with
 | none => rfl
 | some a => exact cellsV_same (h a rfl) k 0
theorem Rows.blocks (h : Rows k C w v xs) (hb : ∀ a n c, v = .slice (some a) n c → x.heap[a.block]? = w.heap[a.block]?) : Rows k C x v xs := by
 obtain ⟨L, ⟨a, c, rfl, hc, hl⟩, h2, h3⟩ := h
 refine ⟨L, ⟨a, c, rfl, hc, fun j hj => ?_⟩, h2, h3⟩
 rw [← hl j hj]
 refine cellsO_same (fun p hp => ?_) k
 cases a with
 | none => cases hp
 | some a =>
  have : p.block = a.block := by
   simp only [adr, Option.map_some, Option.some.injEq] at hp
   rw [← hp, block_add]
  rw [this]; exact hb a _ _ rfl
def BlkB (B : Nat) (w : World) (v : Value) : Prop := ∀ a n c, v = .slice (some a) n c → B ≤ a.block ∧ a.block < w.heap.size
theorem BlkB.ext (h : BlkB B w v) (hs : w.heap.size ≤ x.heap.size) : BlkB B x v := fun a n c hv => ⟨(h a n c hv).1, Nat.lt_of_lt_of_le (h a n c hv).2 hs⟩
theorem BlkB.mono {B' : Nat} (h : BlkB B w v) (hB : B' ≤ B) : BlkB B' w v := fun a n c hv => ⟨Nat.le_trans hB (h a n c hv).1, (h a n c hv).2⟩
theorem BlkB.nil {n c : Nat} : BlkB B w (.slice Option.none n c) := fun a n c hv => by cases hv
theorem BlkB.same {a : Option Addr} {n c n' c' : Nat} (h : BlkB B w (.slice a n c)) : BlkB B w (.slice a n' c') := fun b n2 c2 hv => by
 injection hv with e1 e2 e3
 subst e1
 exact h b n c rfl
theorem Owns.blk (h : Owns k C B w e v xs) : BlkB B w v := by
 intro a n c hv
 rcases h.cases with ⟨h1, _⟩ | ⟨b, cap, L, h1, hb, _, _, hD, _⟩
 ·rw [h1] at hv; cases hv
 ·rw [h1] at hv
  injection hv with e1 e2 e3
  injection e1 with e1
  subst e1
  exact ⟨hb, hD.lt⟩
theorem Rows.keep (h : Rows k C w v xs) {S : Nat → Prop} (hk : Keep S w x) (hB : BlkB B w v) (hS : ∀ b, B ≤ b → b < w.heap.size → ¬ S b) : Rows k C x v xs :=
 h.blocks fun a n c hv => hk.block _ (hB a n c hv).2 (hS _ (hB a n c hv).1 (hB a n c hv).2)
theorem cellsV_drop {w : World} {a : Addr} : ∀ (i m k : Nat) {l : List Value}, cellsV w a i (m + k) = some l → cellsV w a (i + m) k = some (l.drop m)
 | i, 0, k, l, h => by rw [Nat.zero_add] at h; simpa using h
 | i, m + 1, k, l, h => by
  rw [show m + 1 + k = (m + k) + 1 from by omega] at h
  unfold cellsV at h
  split at h
  ·rename_i v l' h1 h2
   cases h
   have := cellsV_drop (i + 1) m k h2
   rw [show i + 1 + m = i + (m + 1) from by omega] at this
   simpa using this
  ·cases h
theorem cellsV_at {w : World} {a : Addr} {m : Nat} : ∀ (k i : Nat), cellsV w (a.add m) i k = cellsV w a (m + i) k
 | 0, _ => rfl
 | k + 1, i => by
  have e := cellsV_at (w := w) (a := a) (m := m) k (i + 1)
  unfold cellsV
  rw [addr_add_add, e]; rfl
theorem cells_drop {w : World} {p : Option Addr} {m k : Nat} {l : List Value} (h : cellsO w p (m + k) = some l) : cellsO w (adr p m) k = some (l.drop m) := by
 cases p with
 | none => cases h
 | some a =>
  show cellsV w (a.add m) 0 k = _
  rw [cellsV_at, Nat.add_zero]
  have := cellsV_drop 0 m k (show cellsV w a 0 (m + k) = some l from h)
  rwa [Nat.zero_add] at this
theorem sub_block {c lo m : Nat} {y a : Addr} (h : (if c = lo then some y else adr (some y) m) = some a) : a.block = y.block := by
 split at h
 ·cases h; rfl
 ·simp only [adr, Option.map_some, Option.some.injEq] at h
  rw [← h, block_add]
theorem off_at {b o n : Nat} (h : b < n) : offS (above n) (some ⟨b, o, Option.none⟩) := fun a ha hb => by
 cases ha
 unfold above at hb
 exact absurd (show n ≤ b from hb) (by omega)
theorem off_adr {y : Addr} {k n : Nat} (h : y.block < n) : offS (above n) (adr (some y) k) := fun a ha hb => by
 simp only [adr, Option.map_some, Option.some.injEq] at ha
 rw [← ha] at hb
 unfold above at hb
 rw [block_add] at hb; omega
theorem drewX {w x : World} (h : x = w.drew) : Ext w x := h ▸ Keep.drew NoS w
/-! ### a variable of several cells -/
variable {P : Program} {K : Value → World → Prop}
theorem sv_all {t : TypeId} {b : Nat} {cur : Array Value} {l : List Value} (hb : w.heap[b]? = some (.cells cur e (0, 0))) (hl : l.length = cur.size) (h1 : ∀ v ∈ l, one v = true) (hs : tyS P t = l.length) (hi : (P.info? t).isSome = true)
  (hK : ∀ w', w'.heap.size = w.heap.size → w'.heap[b]? = some (.cells l.toArray e (0, 0)) → Keep (fun i => i = b) w w' → K undef w') : stK P t (.pointer (some ⟨b, 0, Option.none⟩)) (.agg l.toArray) w K := by
 obtain ⟨w', k1, k2, k3, cur', k4, k5⟩ := stC_block (o := 0) l 0 w [] cur.toList [] cur hb (by simp) rfl (by simp [hl]) h1
 refine ⟨by simp [Value.cells, hs], hi, w', by simpa [Value.cells] using k1, hK w' k2 ?_ k3⟩
 rw [k4]
 have : cur' = l.toArray := by
  apply Array.ext'
  simpa using k5
 rw [this]
theorem sv_at {t : TypeId} {b j : Nat} {u : Value} {l : List Value} (hb : w.heap[b]? = some (.cells l.toArray e (0, 0))) (hj : j < l.length) (h1 : one u = true) (hs : tyS P t = 1) (hi : (P.info? t).isSome = true)
  (hK : ∀ w', w'.heap.size = w.heap.size → w'.heap[b]? = some (.cells (l.set j u).toArray e (0, 0)) → Keep (fun i => i = b) w w' → K undef w') : stK P t (.pointer (some ⟨b, j, Option.none⟩)) u w K := by
 refine st_one hs hi h1 hb (by simpa using hj) (by simp) ?_
 intro w' h1 h2 h3
 refine hK w' h1 ?_ h3
 rw [h2]; simp
theorem sv_get {b j : Nat} {u : Value} {l : List Value} (hb : w.heap[b]? = some (.cells l.toArray e (0, 0))) (hj : l[j]? = some u) : cellO w (some ⟨b, j, Option.none⟩) = some u := by
 show w.cell? _ = _
 rw [cell_of hb]; simpa using hj
theorem sv_cells {b n : Nat} {l : List Value} (hb : w.heap[b]? = some (.cells l.toArray e (0, 0))) (hn : n = l.length) : cellsO w (some ⟨b, 0, Option.none⟩) n = some l := by
 have := cells_all (n := n) hb (by simp [hn])
 simpa using this
end
end Go.Proofs.YtopbbjdembnfdaaGreat
namespace Go.Proofs.YtopbbjdembnfdaaGreat.P_rr
open Go Go.Proofs.YtopbbjdembnfdaaGreat
set_option maxRecDepth 10000
theorem Clip_ok {w : World} {a : Option Addr} {n c : Nat} (hc : n ≤ c) : Fn Tryz.prog 183 #[.slice a n c] w (fun u w' => u = .slice a n n ∧ w' = w) := by
 refine enter Tryz.func183 Tryz.ntmps183 rfl rfl ?_
 repeat refine c_r ?_
 refine rg0 ?_
 repeat refine c_r ?_
 refine rq ?_; intro gd K hgd hK
 try simp (disch := first | omega | assumption | rfl) only [↓reduceIte, go_sem, Nat.reduceLT, Nat.reduceEqDiff, Nat.reduceSub]
 have hcl : slD Tryz.prog (some (TypeDesc.slice 110)) (Value.slice a n c) Option.none (some (Value.int IntKind.i64 ↑n)) (some (Value.int IntKind.i64 ↑n)) = some (.slice a n n) := s_clip hc (by rfl)
 rw [hcl]
 try simp (disch := first | omega | assumption | rfl) only [↓reduceIte, go_sem, Nat.reduceLT, Nat.reduceEqDiff, Nat.reduceSub]
 refine hK _ _ ?_; clear hK hgd; clear K; try clear gd
 repeat refine c_r ?_
 refine rt0 Tryz.ntmps183 ?_
 exact ⟨rfl, rfl⟩
end Go.Proofs.YtopbbjdembnfdaaGreat.P_rr
namespace Go.Proofs.YtopbbjdembnfdaaGreat.S_rec
open Go Go.Proofs.YtopbbjdembnfdaaGreat
set_option maxRecDepth 10000
section
variable {α : Type} {enc : α → List Value}
abbrev Lies (enc : α → List Value) (w : World) (b cap : Nat) (D : List α) : Prop := SD 7 w b 110 cap (D.map enc)
def dataV (b n cap : Nat) : Value := .slice (some ⟨b, 0, Option.none⟩) n cap
theorem Lies.get {w : World} {b cap : Nat} {D : List α} (h : Lies enc w b cap D) {j : Nat} {x : α} (hx : D[j]? = some x) : cellsO w (some ⟨b, j * 7, Option.none⟩) 7 = some (enc x) := by
 obtain ⟨hj, e⟩ := List.getElem?_eq_some_iff.1 hx
 have := SD.get h (j := j) (by simpa using hj)
 rw [this, List.getElem_map, e]
theorem Lies.enc_len {w : World} {b cap : Nat} {D : List α} (h : Lies enc w b cap D) {x : α} (hx : x ∈ D) : (enc x).length = 7 := h.len _ (List.mem_map_of_mem hx)
theorem Lies.enc_one {w : World} {b cap : Nat} {D : List α} (h : Lies enc w b cap D) {x : α} (hx : x ∈ D) : ∀ v ∈ enc x, one v = true := h.ones _ (List.mem_map_of_mem hx)
theorem swapRange_ok {w : World} {b cap : Nat} {A X M Y B : List α} {n : Nat} (hX : X.length = n) (hY : Y.length = n) (hD : Lies enc w b cap (A ++ X ++ M ++ Y ++ B)) (hlen : (A ++ X ++ M ++ Y ++ B).length ≤ 1000000000000) {cmp : Value} :
  Fn Tryz.prog 257 #[dataV b (A ++ X ++ M ++ Y ++ B).length cap, vi A.length, vi (A.length + X.length + M.length : Nat), vi n, cmp] w (fun _ w' => Lies enc w' b cap (A ++ Y ++ M ++ X ++ B) ∧ Keep (fun i => i = b) w w') := by
 obtain ⟨N, hN⟩ : ∃ N, (A ++ X ++ M ++ Y ++ B).length = N := ⟨_, rfl⟩
 have hN' := hN
 simp only [List.length_append] at hN'
 rw [hN] at hlen ⊢
 obtain ⟨q, hq⟩ : ∃ q, A.length + X.length + M.length = q := ⟨_, rfl⟩
 rw [hq]
 unfold dataV
 refine enter Tryz.func257 Tryz.ntmps257 rfl rfl ?_
 repeat (first | refine c_r ?_ | refine rg0 ?_)
 refine W_loop (fun m σ ds v => ds = [] ∧ ∃ i : Nat, i + m = n ∧ σ 10 = vi i ∧ σ 0 = .slice (some ⟨b, 0, Option.none⟩) N cap ∧ σ 1 = vi A.length ∧ σ 2 = vi q ∧ σ 3 = vi n ∧ Lies enc v b cap (swapAt A X M Y B i) ∧ Keep (fun i => i = b) w v) n ?_ ?_
 ·refine ⟨rfl, 0, by omega, ?_, ?_, ?_, ?_, ?_, by rw [swapAt_start]; exact hD, Keep.refl _ _⟩
  ·simp only [↓reduceIte, go_sem, Nat.reduceLT, Nat.reduceEqDiff, Nat.reduceSub]; rfl
  ·simp only [↓reduceIte, go_sem, Nat.reduceLT, Nat.reduceEqDiff, Nat.reduceSub]
  ·simp only [↓reduceIte, go_sem, Nat.reduceLT, Nat.reduceEqDiff, Nat.reduceSub]
  ·simp only [↓reduceIte, go_sem, Nat.reduceLT, Nat.reduceEqDiff, Nat.reduceSub]
  ·simp only [↓reduceIte, go_sem, Nat.reduceLT, Nat.reduceEqDiff, Nat.reduceSub]
 ·rintro m σ ds v ⟨rfl, i, him, h10, h0, h1, h2, h3, hL, hK⟩
  repeat refine c_r ?_
  refine rg2 h10 h3 ?_
  repeat refine c_r ?_
  refine wc0 ?_ ?_
  ·intro hlt
   simp only [decide_eq_true_eq] at hlt
   have hiX : i < X.length := by omega
   have hiY : i < Y.length := by omega
   obtain ⟨hst, hg1, hg2⟩ := swapAt_step (A := A) (M := M) (B := B) hiX hiY
   have hLl : (swapAt A X M Y B i).length = N := by rw [swapAt_len (by omega) (by omega), hN]
   rw [hq] at hg2
   have c1 := hL.get hg1
   have c2 := hL.get hg2
   have m1 := List.mem_of_getElem? hg1
   have m2 := List.mem_of_getElem? hg2
   have x1 : ((A.length : Int) + i).toNat = A.length + i := by omega
   have x2 : ((q : Int) + i).toNat = q + i := by omega
   repeat refine c_r ?_
   refine W_drw (fun i => i == 21 || i == 23) [(0, true), (1, true), (2, true), (3, true), (4, true), (5, true), (6, true), (7, true), (8, true), (9, true), (10, true), (11, true), (12, true), (13, true), (14, true), (15, true), (16, true), (17, true), (18, true), (19, true), (20, true), (21, false), (22, true), (23, false)] NoS mixed (by kernel_rfl) ?_; intro gd K x hgd hx hxe hK; clear hxe
   have hLx : Lies enc x b cap (swapAt A X M Y B i) := SD.ext hL hx
   have d1 := hLx.get hg1
   have d2 := hLx.get hg2
   simp (disch := first | omega | assumption | rfl) only [↓reduceIte, go_sem, Nat.reduceLT, Nat.reduceEqDiff, Nat.reduceSub, h10, h0, h1, h2, x1, x2, d1, d2]
   refine SD.set (P := Tryz.prog) (t := 110) hLx (j := A.length + i) (by simpa using by omega) (hL.enc_len m2) (hL.enc_one m2) rfl rfl ?_
   intro w1 hs1 hL1 hk1
   refine ⟨.inl rfl, ?_⟩
   simp (disch := first | omega | assumption | rfl) only [↓reduceIte, go_sem, Nat.reduceLT, Nat.reduceEqDiff, Nat.reduceSub, x2]
   refine SD.set (P := Tryz.prog) (t := 110) hL1 (j := q + i) (by simpa using by omega) (hL.enc_len m1) (hL.enc_one m1) rfl rfl ?_
   intro w2 hs2 hL2 hk2
   refine ⟨.inl rfl, ?_⟩
   simp (disch := first | omega | assumption | rfl) only [↓reduceIte, go_sem, Nat.reduceLT, Nat.reduceEqDiff, Nat.reduceSub]
   refine hK _ _ ?_; clear hK hgd; clear K; try clear gd
   repeat refine c_r ?_
   refine rg1 h10 ?_
   repeat refine c_r ?_
   refine ⟨m - 1, by omega, rfl, i + 1, by omega, by simp only [↓reduceIte, go_sem, Nat.reduceLT, Nat.reduceEqDiff, Nat.reduceSub]; push_cast; rfl, (vq1 h0), (vq1 h1), (vq1 h2), (vq1 h3), ?_, ((hK.trans (Ext.keep hx)).trans hk1).trans hk2⟩
   rw [← hst, hq]
   unfold Lies
   rw [List.map_set, List.map_set]
   exact hL2
  ·intro hge
   simp only [decide_eq_false_iff_not] at hge
   repeat refine c_r ?_
   refine ret_none (by simp) rfl ?_
   have : i = n := by omega
   subst this
   rw [swapAt_end hX hY] at hL
   exact ⟨hL, hK⟩
theorem swapRange_at {w : World} {b cap : Nat} {D A X M Y B : List α} {p q n N : Nat} (hDe : D = A ++ X ++ M ++ Y ++ B) (hN : D.length = N) (hp : A.length = p) (hq : A.length + X.length + M.length = q) (hX : X.length = n) (hY : Y.length = n) (hD : Lies enc w b cap D) (hlen : N ≤ 1000000000000) {cmp : Value} :
  Fn Tryz.prog 257 #[dataV b N cap, vi p, vi q, vi n, cmp] w (fun _ w' => Lies enc w' b cap (A ++ Y ++ M ++ X ++ B) ∧ Keep (fun i => i = b) w w') := by
 subst hDe hN hp hq
 exact swapRange_ok hX hY hD hlen
theorem rotate_ok {w : World} {b cap : Nat} {D A X Y B : List α} {p q r N : Nat} (hDe : D = A ++ X ++ Y ++ B) (hN : D.length = N) (hp : A.length = p) (hq : A.length + X.length = q) (hr : A.length + X.length + Y.length = r) (hX : X ≠ []) (hY : Y ≠ []) (hD : Lies enc w b cap D) (hlen : N ≤ 1000000000000) {cmp : Value} :
  Fn Tryz.prog 251 #[dataV b N cap, vi p, vi q, vi r, cmp] w (fun _ w' => Lies enc w' b cap (A ++ Y ++ X ++ B) ∧ Keep (fun i => i = b) w w') := by
 have hDl := congrArg List.length hDe
 simp only [List.length_append] at hDl
 have hXp : 0 < X.length := List.length_pos_iff.2 hX
 have hYp : 0 < Y.length := List.length_pos_iff.2 hY
 unfold dataV
 refine enter Tryz.func251 Tryz.ntmps251 rfl rfl ?_
 repeat (first | refine c_r ?_ | refine rg0 ?_)
 refine W_loop (fun m σ ds v => ds = [] ∧ ∃ (P X' Y' Q : List α), X'.length + Y'.length = m ∧ 0 < X'.length ∧ 0 < Y'.length ∧ P.length + X'.length = q ∧ P.length + X'.length + Y'.length + Q.length = N ∧ P ++ Y' ++ X' ++ Q = A ++ Y ++ X ++ B ∧ σ 10 = vi X'.length ∧ σ 11 = vi Y'.length ∧ σ 0 = .slice (some ⟨b, 0, Option.none⟩) N cap ∧ σ 2 = vi q ∧ σ 4 = cmp ∧
  Lies enc v b cap (P ++ X' ++ Y' ++ Q) ∧ Keep (fun i => i = b) w v) (X.length + Y.length) ?_ ?_
 ·refine ⟨rfl, A, X, Y, B, rfl, hXp, hYp, hq, by omega, rfl, ?_, ?_, ?_, ?_, ?_, by rw [← hDe]; exact hD, Keep.refl _ _⟩
  ·have : (q : Int) - p = X.length := by omega
   simp only [↓reduceIte, go_sem, Nat.reduceLT, Nat.reduceEqDiff, Nat.reduceSub, this]
  ·have : (r : Int) - q = Y.length := by omega
   simp only [↓reduceIte, go_sem, Nat.reduceLT, Nat.reduceEqDiff, Nat.reduceSub, this]
  ·simp only [↓reduceIte, go_sem, Nat.reduceLT, Nat.reduceEqDiff, Nat.reduceSub]
  ·simp only [↓reduceIte, go_sem, Nat.reduceLT, Nat.reduceEqDiff, Nat.reduceSub]
  ·simp only [↓reduceIte, go_sem, Nat.reduceLT, Nat.reduceEqDiff, Nat.reduceSub]
 ·rintro m σ ds v ⟨rfl, P, X', Y', Q, hm, hx0, hy0, hPq, hPN, hT, h10, h11, h0, h2, h4, hL, hK⟩
  have hDl' : (P ++ X' ++ Y' ++ Q).length = N := by simp only [List.length_append]; omega
  have hqi : (q : Int) - X'.length = P.length := by omega
  repeat refine c_r ?_
  refine rq ?_; intro gd K hgd hK; simp (disch := first | omega | assumption | rfl) only [↓reduceIte, go_sem, Nat.reduceLT, Nat.reduceEqDiff, Nat.reduceSub, h10, h11]; refine hK _ _ ?_; clear hK hgd; clear K gd
  repeat refine c_r ?_
  refine wc0 ?_ ?_
  ·intro hne
   simp only [Bool.not_eq_true', decide_eq_false_iff_not] at hne
   repeat refine c_r ?_
   refine rq ?_; intro gd K hgd hK; simp (disch := first | omega | assumption | rfl) only [↓reduceIte, go_sem, Nat.reduceLT, Nat.reduceEqDiff, Nat.reduceSub, h10, h11]; refine hK _ _ ?_; clear hK hgd; clear K gd
   repeat refine c_r ?_
   refine wc0 ?_ ?_
   ·intro hgt
    simp only [decide_eq_true_eq] at hgt
    have e1 : P ++ X' ++ Y' ++ Q = P ++ X'.take Y'.length ++ X'.drop Y'.length ++ Y' ++ Q := by
     rw [List.append_assoc P (X'.take Y'.length), List.take_append_drop]
    have l1 : (X'.take Y'.length).length = Y'.length := by simp; omega
    have l2 : (X'.drop Y'.length).length = X'.length - Y'.length := by simp
    repeat refine c_r ?_
    refine rq ?_; intro gd K hgd hK
    try simp (disch := first | omega | assumption | rfl) only [↓reduceIte, go_sem, Nat.reduceLT, Nat.reduceEqDiff, Nat.reduceSub, h0, h2, h10, h11, h4, hqi]
    refine Fn.mono (swapRange_at (p := P.length) (q := q) e1 hDl' rfl (by rw [l1, l2]; omega) l1 rfl hL hlen) ?_
    rintro _ w1 ⟨hL1, hK1⟩
    try simp (disch := first | omega | assumption | rfl) only [↓reduceIte, go_sem, Nat.reduceLT, Nat.reduceEqDiff, Nat.reduceSub]
    refine hK _ _ ?_; clear hK hgd; clear K; try clear gd
    repeat refine c_r ?_
    have hsub : (X'.length : Int) - Y'.length = (X'.drop Y'.length).length := by rw [l2]; omega
    refine rq ?_; intro gd K hgd hK; simp (disch := first | omega | assumption | rfl) only [↓reduceIte, go_sem, Nat.reduceLT, Nat.reduceEqDiff, Nat.reduceSub, h10, h11, hsub]; refine hK _ _ ?_; clear hK hgd; clear K gd
    repeat refine c_r ?_
    refine ⟨X'.length, by omega, rfl, P ++ Y', X'.drop Y'.length, X'.take Y'.length, Q, by rw [l1, l2]; omega, by rw [l2]; omega, by rw [l1]; omega, by rw [l2, List.length_append]; omega, by rw [l1, l2, List.length_append]; omega, ?_, (vq1 hsub), by simp only [↓reduceIte, go_sem, Nat.reduceLT, Nat.reduceEqDiff, Nat.reduceSub, h11, l1], (vq1 h0), (vq1 h2), (vq1 h4), ?_, hK.trans hK1⟩
    ·rw [← hT, List.append_assoc (P ++ Y'), List.take_append_drop]
    ·exact hL1
   ·intro hle
    simp only [decide_eq_false_iff_not] at hle
    have hlt : X'.length < Y'.length := by omega
    obtain ⟨d, hd⟩ : ∃ d, Y'.length - X'.length = d := ⟨_, rfl⟩
    have e1 : P ++ X' ++ Y' ++ Q = P ++ X' ++ Y'.take d ++ Y'.drop d ++ Q := by
     rw [List.append_assoc (P ++ X') (Y'.take d), List.take_append_drop]
    have l1 : (Y'.take d).length = d := by simp; omega
    have l2 : (Y'.drop d).length = X'.length := by simp; omega
    have hqj : (q : Int) + Y'.length - X'.length = ((q + d : Nat) : Int) := by omega
    repeat refine c_r ?_
    refine rq ?_; intro gd K hgd hK
    try simp (disch := first | omega | assumption | rfl) only [↓reduceIte, go_sem, Nat.reduceLT, Nat.reduceEqDiff, Nat.reduceSub, h0, h2, h10, h11, h4, hqi, hqj]
    refine Fn.mono (swapRange_at (p := P.length) (q := q + d) e1 hDl' rfl (by rw [l1]; omega) rfl l2 hL hlen) ?_
    rintro _ w1 ⟨hL1, hK1⟩
    try simp (disch := first | omega | assumption | rfl) only [↓reduceIte, go_sem, Nat.reduceLT, Nat.reduceEqDiff, Nat.reduceSub]
    refine hK _ _ ?_; clear hK hgd; clear K; try clear gd
    repeat refine c_r ?_
    have hsub : (Y'.length : Int) - X'.length = (Y'.take d).length := by rw [l1]; omega
    refine rq ?_; intro gd K hgd hK; simp (disch := first | omega | assumption | rfl) only [↓reduceIte, go_sem, Nat.reduceLT, Nat.reduceEqDiff, Nat.reduceSub, h10, h11, hsub]; refine hK _ _ ?_; clear hK hgd; clear K gd
    repeat refine c_r ?_
    refine ⟨Y'.length, by omega, rfl, P, Y'.drop d, Y'.take d, X' ++ Q, by rw [l1, l2]; omega, by rw [l2]; omega, by rw [l1]; omega, by rw [l2]; omega, by rw [l1, l2, List.length_append]; omega, ?_, (vq2 h10 l2), (vq1 hsub), (vq1 h0), (vq1 h2), (vq1 h4), ?_, hK.trans hK1⟩
    ·rw [← hT, List.append_assoc P (Y'.take d), List.take_append_drop]; simp only [List.append_assoc]
    ·have : P ++ Y'.drop d ++ Y'.take d ++ X' ++ Q = P ++ Y'.drop d ++ Y'.take d ++ (X' ++ Q) := by simp only [List.append_assoc]
     rw [← this]; exact hL1
  ·intro heq
   simp only [Bool.not_eq_false', decide_eq_true_eq] at heq
   have e1 : P ++ X' ++ Y' ++ Q = P ++ X' ++ [] ++ Y' ++ Q := by simp
   repeat refine c_r ?_
   refine rq ?_; intro gd K hgd hK
   try simp (disch := first | omega | assumption | rfl) only [↓reduceIte, go_sem, Nat.reduceLT, Nat.reduceEqDiff, Nat.reduceSub, h0, h2, h10, h4, hqi]
   refine Fn.mono (swapRange_at (p := P.length) (q := q) (n := X'.length) e1 hDl' rfl (by simpa using hPq) rfl (by omega) hL hlen) ?_
   rintro _ w1 ⟨hL1, hK1⟩
   try simp (disch := first | omega | assumption | rfl) only [↓reduceIte, go_sem, Nat.reduceLT, Nat.reduceEqDiff, Nat.reduceSub]
   refine hK _ _ ?_; clear hK hgd; clear K; try clear gd
   repeat refine c_r ?_
   refine ret_none (by simp) rfl ⟨?_, hK.trans hK1⟩
   rw [← hT]
   simpa using hL1
end
section
variable {α : Type} {enc : α → List Value}
structure Cmp (w0 : World) (enc : α → List Value) (U : α → Prop) (cf : α → α → Int) (g : FuncId) (cb : List Value) : Prop where
 cal : callable Tryz.prog g = true
 call : ∀ (A : World) (x y : α), Ext w0 A → U x → U y → Fn Tryz.prog g (.agg (enc x).toArray :: .agg (enc y).toArray :: cb).toArray A (fun v B => v = vi (cf x y) ∧ Ext A B)
def cmpV (g : FuncId) (cb : List Value) : Value := .func (.func g) #[] cb.toArray
theorem insertionSort_ok {w0 w : World} {b cap : Nat} {U : α → Prop} {cf : α → α → Int} {lt older : α → α → Prop} {g : FuncId} {cb : List Value} (hc : Cmp w0 enc U cf g cb) (ho : Older cf lt older)
  {D A X B : List α} {p q N : Nat} (hDe : D = A ++ X ++ B) (hN : D.length = N) (hp : A.length = p) (hq : A.length + X.length = q) (hU : ∀ x ∈ X, U x) (hX : X.Pairwise older) (hD : Lies enc w b cap D) (hlen : N ≤ 1000000000000)
  (hE : Ext w0 w) (hb : w0.heap.size ≤ b) :
  Fn Tryz.prog 240 #[dataV b N cap, vi p, vi q, cmpV g cb] w (fun _ w' => (∃ Z, Z.Perm X ∧ Z.Pairwise lt ∧ Lies enc w' b cap (A ++ Z ++ B)) ∧ Keep (fun i => i = b) w w') := by
 have hDl := congrArg List.length hDe
 simp only [List.length_append] at hDl
 unfold dataV cmpV
 refine enter Tryz.func240 Tryz.ntmps240 rfl rfl ?_
 repeat (first | refine c_r ?_ | refine rg0 ?_)
 refine W_loop (fun m σ ds v => ds = [] ∧ ∃ (k : Nat) (S : List α), 1 ≤ k ∧ k + m = X.length + 1 ∧ S.Perm (X.take k) ∧ S.Pairwise lt ∧ σ 8 = vi (p + k : Nat) ∧ σ 0 = .slice (some ⟨b, 0, Option.none⟩) N cap ∧ σ 1 = vi p ∧ σ 2 = vi q ∧ σ 3 = .func (.func g) #[] cb.toArray ∧
  Lies enc v b cap (A ++ S ++ X.drop k ++ B) ∧ Keep (fun i => i = b) w v) X.length ?_ ?_
 ·refine ⟨rfl, 1, X.take 1, by omega, by omega, List.Perm.refl _, ?_, ?_, ?_, ?_, ?_, ?_, ?_, Keep.refl _ _⟩
  ·match X with
   | [] => exact List.Pairwise.nil
   | x :: _ => exact List.pairwise_singleton _ _
  ·simp only [↓reduceIte, go_sem, Nat.reduceLT, Nat.reduceEqDiff, Nat.reduceSub]; push_cast; rfl
  ·simp only [↓reduceIte, go_sem, Nat.reduceLT, Nat.reduceEqDiff, Nat.reduceSub]
  ·simp only [↓reduceIte, go_sem, Nat.reduceLT, Nat.reduceEqDiff, Nat.reduceSub]
  ·simp only [↓reduceIte, go_sem, Nat.reduceLT, Nat.reduceEqDiff, Nat.reduceSub]
  ·simp only [↓reduceIte, go_sem, Nat.reduceLT, Nat.reduceEqDiff, Nat.reduceSub]
  ·rw [List.append_assoc A, List.take_append_drop, ← hDe]; exact hD
 ·rintro m σ ds v ⟨rfl, k, S, hk1, hkm, hSp, hSs, h8, h0, h1, h2, h3, hL, hK⟩
  have hSl := hSp.length_eq
  repeat refine c_r ?_
  refine rg2 h8 h2 ?_
  repeat refine c_r ?_
  refine wc0 ?_ ?_
  ·intro hlt
   simp only [decide_eq_true_eq] at hlt
   have hkX : k < X.length := by omega
   have hSk : S.length = k := by rw [hSl]; simp; omega
   obtain ⟨u, hu⟩ : ∃ u, X[k] = u := ⟨_, rfl⟩
   have hUu : U u := hU u (by rw [← hu]; exact List.getElem_mem _)
   have hUS : ∀ y ∈ S, U y := fun y hy => hU y (List.mem_of_mem_take (hSp.mem_iff.1 hy))
   have hOS : ∀ y ∈ S, older y u := fun y hy => by
    have h1 := hX
    rw [split_at hkX, List.pairwise_append] at h1
    exact h1.2.2 y (hSp.mem_iff.1 hy) u (by rw [hu]; exact List.mem_cons_self ..)
   have hdk : X.drop k = u :: X.drop (k + 1) := by rw [List.drop_eq_getElem_cons hkX, hu]
   rw [hdk] at hL
   repeat refine c_r ?_
   refine rg1 h8 ?_
   repeat refine c_r ?_
   refine W_loop (fun m σ ds v => ds = [] ∧ ∃ (S1 S2 : List α), S1.length = m ∧ S1 ++ S2 = S ∧ (∀ y ∈ S2, lt u y) ∧ σ 9 = vi (p + S1.length : Nat) ∧ σ 8 = vi (p + k : Nat) ∧ σ 0 = .slice (some ⟨b, 0, Option.none⟩) N cap ∧ σ 1 = vi p ∧ σ 2 = vi q ∧ σ 3 = .func (.func g) #[] cb.toArray ∧
    Lies enc v b cap (A ++ S1 ++ u :: S2 ++ X.drop (k + 1) ++ B) ∧ Keep (fun i => i = b) w v) S.length ?_ ?_
   ·refine ⟨rfl, S, [], rfl, by simp, fun y hy => (by cases hy), ?_, ?_, ?_, ?_, ?_, ?_, by simpa using hL, hK⟩
    ·simp only [↓reduceIte, go_sem, Nat.reduceLT, Nat.reduceEqDiff, Nat.reduceSub, hSk]
    ·simp only [↓reduceIte, go_sem, Nat.reduceLT, Nat.reduceEqDiff, Nat.reduceSub, h8]
    ·simp only [↓reduceIte, go_sem, Nat.reduceLT, Nat.reduceEqDiff, Nat.reduceSub, h0]
    ·simp only [↓reduceIte, go_sem, Nat.reduceLT, Nat.reduceEqDiff, Nat.reduceSub, h1]
    ·simp only [↓reduceIte, go_sem, Nat.reduceLT, Nat.reduceEqDiff, Nat.reduceSub, h2]
    ·simp only [↓reduceIte, go_sem, Nat.reduceLT, Nat.reduceEqDiff, Nat.reduceSub, h3]
   clear h8 h0 h1 h2 h3 hL hK
   rintro m2 σ ds v ⟨rfl, S1, S2, hm2, hS12, hS2, h9, h8, h0, h1, h2, h3, hL, hK⟩
   have hE0 : Ext w0 v := Keep.to_ext hE rfl (fun i hi => by omega) hK
   have hl12 : S1.length + S2.length = k := by rw [← hSk, ← hS12, List.length_append]
   -- the round's end: where u stays
   have hstay : ∀ (v' : World), (∀ y ∈ S1, lt y u) → Ext v v' → (S1 ++ u :: S2).Perm (X.take (k + 1)) ∧ (S1 ++ u :: S2).Pairwise lt ∧ Lies enc v' b cap (A ++ (S1 ++ u :: S2) ++ X.drop (k + 1) ++ B) := fun v' hy0 hEv => by
    refine ⟨?_, ?_, ?_⟩
    ·rw [take_succ' hkX, hu]
     refine List.Perm.trans ?_ (List.Perm.append_right [u] hSp)
     rw [← hS12, List.append_assoc]
     exact List.Perm.append_left S1 (by
      have := (List.perm_append_comm (l₁ := [u]) (l₂ := S2)); simpa using this)
    ·rw [← hS12, List.pairwise_append] at hSs
     rw [List.pairwise_append]
     refine ⟨hSs.1, List.pairwise_cons.2 ⟨hS2, hSs.2.1⟩, fun y hy z hz => ?_⟩
     rcases List.mem_cons.1 hz with rfl | hz
     ·exact hy0 y hy
     ·exact hSs.2.2 y hy z hz
    ·have : A ++ (S1 ++ u :: S2) ++ X.drop (k + 1) ++ B = A ++ S1 ++ u :: S2 ++ X.drop (k + 1) ++ B := by simp only [List.append_assoc, List.cons_append]
     rw [this]; exact SD.ext hL hEv
   rcases List.eq_nil_or_concat S1 with rfl | ⟨S1', y, hS1⟩
   ·simp only [List.length_nil, Nat.add_zero] at h9
    have hd := decide_eq_false (Int.lt_irrefl (p : Int))
    repeat refine c_r ?_
    refine W_drw (fun _ => false) [(0, true), (1, true), (2, true), (3, true), (4, true), (5, true), (6, true), (7, true), (8, true), (9, true), (10, true), (11, true), (12, true), (13, true), (14, false), (15, true), (16, true)] NoS mixed (by kernel_rfl) ?_; intro gd K x hgd hx hxe hK; clear hxe
    have hg3 : ∀ n σ b, wantV gd n σ (some (3, b)) = boolIs (ev n σ (.tmp 21)) b := (fun n σ b => by rw [wantV_some, show gd 3 = some 21 from (by rw [hgd]; rfl)]; rfl)
    simp (disch := first | omega | assumption | rfl) only [↓reduceIte, go_sem, Nat.reduceLT, Nat.reduceEqDiff, Nat.reduceSub, h9, h1, hd, ↓hg3]
    refine hK _ _ ?_; clear hK hgd; clear K; try clear gd
    obtain ⟨r1, r2, r3⟩ := hstay x (fun y hy => (by cases hy)) hx
    repeat refine c_r ?_
    refine wc0 ?_ ?_
    ·intro h; simp at h
    intro _
    repeat refine c_r ?_
    refine rg1 h8 ?_
    repeat refine c_r ?_
    exact ⟨m - 1, by omega, rfl, k + 1, _, by omega, by omega, r1, r2, by simp only [↓reduceIte, go_sem, Nat.reduceLT, Nat.reduceEqDiff, Nat.reduceSub]; push_cast; rfl, (vq1 h0), (vq1 h1), (vq1 h2), (vq1 h3), r3, hK.trans (Ext.keep hx)⟩
   ·rw [List.concat_eq_append] at hS1
    subst hS1
    rw [List.length_append, List.length_cons, List.length_nil] at hm2 hl12
    obtain ⟨j, hj⟩ : ∃ j, p + S1'.length = j := ⟨_, rfl⟩
    rw [List.length_append, List.length_cons, List.length_nil, ← Nat.add_assoc, Nat.zero_add, hj] at h9
    have hd : decide ((p : Int) < ((j + 1 : Nat) : Int)) = true := decide_eq_true (by omega)
    have hs : ((j + 1 : Nat) : Int) - 1 = (j : Int) := by omega
    have hAl : (A ++ S1').length = j := by rw [List.length_append]; omega
    have e1 : A ++ (S1' ++ [y]) ++ u :: S2 ++ X.drop (k + 1) ++ B = (A ++ S1') ++ y :: [] ++ u :: (S2 ++ X.drop (k + 1) ++ B) := by simp only [List.append_assoc, List.cons_append, List.nil_append]
    have e2 : (A ++ S1') ++ u :: [] ++ y :: (S2 ++ X.drop (k + 1) ++ B) = A ++ S1' ++ u :: (y :: S2) ++ X.drop (k + 1) ++ B := by simp only [List.append_assoc, List.cons_append, List.nil_append]
    rw [e1] at hL
    have g1 : ((A ++ S1') ++ y :: [] ++ u :: (S2 ++ X.drop (k + 1) ++ B))[j]? = some y := by
     rw [List.append_assoc, List.cons_append, ← hAl]; exact get_mid _ _ _
    have g2 : ((A ++ S1') ++ y :: [] ++ u :: (S2 ++ X.drop (k + 1) ++ B))[j + 1]? = some u := by
     have := get_mid ((A ++ S1') ++ [y]) (S2 ++ X.drop (k + 1) ++ B) u
     rwa [List.length_append, hAl] at this
    have hjN : j + 1 < N := by omega
    have hyS : y ∈ S := by rw [← hS12]; simp
    repeat refine c_r ?_
    refine W_drw (fun _ => false) [(0, true), (1, true), (2, true), (3, true), (4, true), (5, true), (6, true), (7, true), (8, true), (9, true), (10, true), (11, true), (12, true), (13, true), (14, false), (15, true), (16, true)] NoS mixed (by kernel_rfl) ?_; intro gd K x hgd hx hxe hK; clear hxe
    have hg3 : ∀ n σ b, wantV gd n σ (some (3, b)) = boolIs (ev n σ (.tmp 21)) b := (fun n σ b => by rw [wantV_some, show gd 3 = some 21 from (by rw [hgd]; rfl)]; rfl)
    have hLx : Lies enc x b cap ((A ++ S1') ++ y :: [] ++ u :: (S2 ++ X.drop (k + 1) ++ B)) := SD.ext hL hx
    have d1 := hLx.get g1
    have d2 := hLx.get g2
    simp (disch := first | omega | assumption | rfl) only [↓reduceIte, go_sem, Nat.reduceLT, Nat.reduceEqDiff, Nat.reduceSub, h9, h1, h0, h3, hd, hs, d1, d2, ↓hg3]
    refine call_of hc.cal (Fn.mono (hc.call x u y (hE0.trans hx) hUu (hUS y hyS)) ?_)
    rintro _ w1 ⟨rfl, hE1⟩
    refine ⟨.inr (Ext.keep hE1), ?_⟩
    simp (disch := first | omega | assumption | rfl) only [↓reduceIte, go_sem, Nat.reduceLT, Nat.reduceEqDiff, Nat.reduceSub, ↓hg3]
    refine hK _ _ ?_; clear hK hgd; clear K; try clear gd
    have hx1 := hx.trans hE1
    repeat refine c_r ?_
    refine wc0 ?_ ?_
    ·intro hlt2
     simp only [decide_eq_true_eq] at hlt2
     have hLy : Lies enc w1 b cap ((A ++ S1') ++ y :: [] ++ u :: (S2 ++ X.drop (k + 1) ++ B)) := SD.ext hLx hE1
     have m1 := List.mem_of_getElem? g1
     have m2' := List.mem_of_getElem? g2
     repeat refine c_r ?_
     refine W_drw (fun i => i == 15 || i == 17) [(0, true), (1, true), (2, true), (3, true), (4, true), (5, true), (6, true), (7, true), (8, true), (9, true), (10, true), (11, true), (12, true), (13, true), (14, true), (15, false), (16, true), (17, false)] NoS mixed (by kernel_rfl) ?_; intro gd K x hgd hx hxe hK; clear hxe
     rename_i x0 _
     have hLz : Lies enc x b cap ((A ++ S1') ++ y :: [] ++ u :: (S2 ++ X.drop (k + 1) ++ B)) := SD.ext hLy ‹Keep NoS w1 x›
     have d3 := hLz.get g1
     have d4 := hLz.get g2
     simp (disch := first | omega | assumption | rfl) only [↓reduceIte, go_sem, Nat.reduceLT, Nat.reduceEqDiff, Nat.reduceSub, h9, h0, hs, d3, d4]
     refine SD.set (P := Tryz.prog) (t := 110) hLz (j := j + 1) (by rw [List.length_map]; exact (List.getElem?_eq_some_iff.1 g2).1) (hL.enc_len m1) (hL.enc_one m1) rfl rfl ?_
     intro w2 hs2 hL2 hk2
     refine ⟨.inl rfl, ?_⟩
     simp (disch := first | omega | assumption | rfl) only [↓reduceIte, go_sem, Nat.reduceLT, Nat.reduceEqDiff, Nat.reduceSub, h9, hs]
     refine SD.set (P := Tryz.prog) (t := 110) hL2 (j := j) (by rw [List.length_set, List.length_map]; exact (List.getElem?_eq_some_iff.1 g1).1) (hL.enc_len m2') (hL.enc_one m2') rfl rfl ?_
     intro w3 hs3 hL3 hk3
     refine ⟨.inl rfl, ?_⟩
     simp (disch := first | omega | assumption | rfl) only [↓reduceIte, go_sem, Nat.reduceLT, Nat.reduceEqDiff, Nat.reduceSub]
     refine hK _ _ ?_; clear hK hgd; clear K; try clear gd
     repeat refine c_r ?_
     refine rg2 h9 hs ?_
     repeat refine c_r ?_
     refine ⟨m2 - 1, by omega, rfl, S1', y :: S2, by omega, by rw [← hS12]; simp, fun z hz => ?_, (vq2 hs hj), (vq1 h8), (vq1 h0), (vq1 h1), (vq1 h2), (vq1 h3), ?_, (((hK.trans (Ext.keep hx1)).trans (Ext.keep ‹Keep NoS w1 x›)).trans hk2).trans hk3⟩
     ·rcases List.mem_cons.1 hz with rfl | hz
      ·exact ho.less (hOS _ hyS) hlt2
      ·exact hS2 z hz
     ·rw [← e2]
      have := swap_two (A ++ S1') [] (S2 ++ X.drop (k + 1) ++ B) y u (i := j) (j := j + 1) hAl.symm (by rw [hAl]; simp)
      rw [List.set_comm _ _ (by omega)] at this
      unfold Lies
      rw [← this, List.map_set, List.map_set]
      exact hL3
    ·intro hge2
     simp only [decide_eq_false_iff_not] at hge2
     have hly := ho.more (hOS y hyS) hge2
     obtain ⟨r1, r2, r3⟩ := hstay w1 (fun z hz => by
      rcases List.mem_append.1 hz with hz | hz
      ·have h1 := hSs
       rw [← hS12, List.append_assoc, List.pairwise_append] at h1
       exact ho.trans (h1.2.2 z hz y (by simp)) hly
      ·rw [List.mem_singleton.1 hz]; exact hly) hx1
     repeat refine c_r ?_
     refine rg1 h8 ?_
     repeat refine c_r ?_
     exact ⟨m - 1, by omega, rfl, k + 1, _, by omega, by omega, r1, r2, by simp only [↓reduceIte, go_sem, Nat.reduceLT, Nat.reduceEqDiff, Nat.reduceSub]; push_cast; rfl, (vq1 h0), (vq1 h1), (vq1 h2), (vq1 h3), r3, hK.trans (Ext.keep hx1)⟩
  ·intro hge
   simp only [decide_eq_false_iff_not] at hge
   repeat refine c_r ?_
   refine ret_none (by simp) rfl ⟨⟨S, ?_, hSs, ?_⟩, hK⟩
   ·rwa [List.take_of_length_le (by omega)] at hSp
   ·rw [List.drop_of_length_le (by omega), List.append_nil] at hL; exact hL
end
section
variable {α : Type} {enc : α → List Value}
theorem symMerge_first {w0 w : World} {b cap : Nat} {U : α → Prop} {cf : α → α → Int} {lt older : α → α → Prop} {g : FuncId} {cb : List Value} (hc : Cmp w0 enc U cf g cb) (ho : Older cf lt older)
  {D A Y B : List α} {u : α} {p q r N : Nat} (hDe : D = A ++ u :: Y ++ B) (hN : D.length = N) (hp : A.length = p) (hq : p + 1 = q) (hr : q + Y.length = r) (hUu : U u) (hU : ∀ y ∈ Y, U y) (hY : Y.Pairwise lt) (hold : ∀ y ∈ Y, older u y)
  (hD : Lies enc w b cap D) (hlen : N ≤ 1000000000000) (hE : Ext w0 w) (hb : w0.heap.size ≤ b) :
  Fn Tryz.prog 241 #[dataV b N cap, vi p, vi q, vi r, cmpV g cb] w (fun _ w' => (∃ Z, Z.Perm (u :: Y) ∧ Z.Pairwise lt ∧ Lies enc w' b cap (A ++ Z ++ B)) ∧ Keep (fun i => i = b) w w') := by
 have hDl := congrArg List.length hDe
 simp only [List.length_append, List.length_cons] at hDl
 have hqp : (q : Int) - p = 1 := by omega
 unfold dataV cmpV
 refine enter Tryz.func241 Tryz.ntmps241 rfl rfl ?_
 repeat refine c_r ?_
 refine rg2 hqp decide_true ?_
 repeat refine c_r ?_
 refine wc0 ?_ ?_
 rotate_left
 ·intro h; simp at h
 intro _
 repeat refine c_r ?_
 refine rg0 ?_
 repeat refine c_r ?_
 refine rg0 ?_
 repeat refine c_r ?_
 refine W_loop (fun m σ ds v => ds = [] ∧ ∃ (s e : Nat), s + m = e ∧ e ≤ Y.length ∧ Cut lt u Y s e ∧ σ 10 = vi (q + s : Nat) ∧ σ 11 = vi (q + e : Nat) ∧ σ 0 = .slice (some ⟨b, 0, Option.none⟩) N cap ∧ σ 1 = vi p ∧ σ 4 = .func (.func g) #[] cb.toArray ∧ Ext w v) Y.length ?_ ?_
 ·refine ⟨rfl, 0, Y.length, by omega, Nat.le_refl _, Cut.start u Y, ?_, ?_, ?_, ?_, ?_, Keep.refl _ _⟩
  ·simp only [↓reduceIte, go_sem, Nat.reduceLT, Nat.reduceEqDiff, Nat.reduceSub]; rfl
  ·simp only [↓reduceIte, go_sem, Nat.reduceLT, Nat.reduceEqDiff, Nat.reduceSub, hr]
  ·simp only [↓reduceIte, go_sem, Nat.reduceLT, Nat.reduceEqDiff, Nat.reduceSub]
  ·simp only [↓reduceIte, go_sem, Nat.reduceLT, Nat.reduceEqDiff, Nat.reduceSub]
  ·simp only [↓reduceIte, go_sem, Nat.reduceLT, Nat.reduceEqDiff, Nat.reduceSub]
 rintro m σ ds v ⟨rfl, s, e, hse, he, hcut, h10, h11, h0, h1, h4, hEv⟩
 have hLv : Lies enc v b cap D := SD.ext hD hEv
 repeat refine c_r ?_
 refine rq ?_; intro gd K hgd hK; simp (disch := first | omega | assumption | rfl) only [↓reduceIte, go_sem, Nat.reduceLT, Nat.reduceEqDiff, Nat.reduceSub, h10, h11]; refine hK _ _ ?_; clear hK hgd; clear K gd
 repeat refine c_r ?_
 refine wc0 ?_ ?_
 ·intro hlt
  simp only [decide_eq_true_eq] at hlt
  have hsum : ((q + s : Nat) : Int) + ((q + e : Nat) : Int) = ((q + s + (q + e) : Nat) : Int) := by push_cast; rfl
  obtain ⟨k, hk⟩ : ∃ k, (s + e) / 2 = k := ⟨_, rfl⟩
  have hdiv : (q + s + (q + e)) / 2 = q + k := by omega
  have hkY : k < Y.length := by omega
  obtain ⟨y, hy⟩ : ∃ y, Y[k] = y := ⟨_, rfl⟩
  have hyk : Y[k]? = some y := by rw [List.getElem?_eq_getElem hkY, hy]
  have hyY : y ∈ Y := by rw [← hy]; exact List.getElem_mem _
  have g1 : D[p]? = some u := by rw [hDe, List.append_assoc, List.cons_append, ← hp]; exact get_mid _ _ _
  have g2 : D[q + k]? = some y := by
   have e1 : D = A ++ [u] ++ Y ++ B := by rw [hDe]; simp
   have hl : (A ++ [u]).length = q := by simp; omega
   rw [e1, List.append_assoc (A ++ [u]), List.getElem?_append_right (by omega), hl, Nat.add_sub_cancel_left, List.getElem?_append_left hkY]
   exact hyk
  repeat refine c_r ?_
  refine rq ?_; intro gd K hgd hK; simp (disch := first | omega | assumption | rfl) only [↓reduceIte, go_sem, Nat.reduceLT, Nat.reduceEqDiff, Nat.reduceSub, h10, h11, hsum, hdiv]; refine hK _ _ ?_; clear hK hgd; clear K gd
  repeat refine c_r ?_
  refine W_drw (fun _ => false) [(0, true), (1, true), (2, true), (3, true), (4, true), (5, true), (6, true), (7, true), (8, true), (9, false), (10, true)] NoS mixed (by kernel_rfl) ?_; intro gd K x hgd hx hxe hK; clear hxe
  have hLx : Lies enc x b cap D := SD.ext hLv hx
  have d1 := hLx.get g1
  have d2 := hLx.get g2
  simp (disch := first | omega | assumption | rfl) only [↓reduceIte, go_sem, Nat.reduceLT, Nat.reduceEqDiff, Nat.reduceSub, h0, h1, h4, d1, d2]
  refine call_of hc.cal (Fn.mono (hc.call x y u ((hE.trans hEv).trans hx) (hU y hyY) hUu) ?_)
  rintro _ w1 ⟨rfl, hE1⟩
  refine ⟨.inr (Ext.keep hE1), ?_⟩
  simp (disch := first | omega | assumption | rfl) only [↓reduceIte, go_sem, Nat.reduceLT, Nat.reduceEqDiff, Nat.reduceSub]
  refine hK _ _ ?_; clear hK hgd; clear K; try clear gd
  have hEv1 := (hEv.trans hx).trans hE1
  repeat refine c_r ?_
  refine wc0 ?_ ?_
  ·intro hl
   simp only [decide_eq_true_eq] at hl
   repeat refine c_r ?_
   refine rg0 ?_
   repeat refine c_r ?_
   refine ⟨m - (k + 1 - s), by omega, rfl, k + 1, e, by omega, he, hcut.up ho.trans hY hyk (ho.less (hold y hyY) hl), by simp only [↓reduceIte, go_sem, Nat.reduceLT, Nat.reduceEqDiff, Nat.reduceSub]; push_cast; rfl, by simp only [↓reduceIte, go_sem, Nat.reduceLT, Nat.reduceEqDiff, Nat.reduceSub, h11], (vq1 h0), (vq1 h1), (vq1 h4), hEv1⟩
  ·intro hl
   simp only [decide_eq_false_iff_not] at hl
   repeat refine c_r ?_
   refine rg0 ?_
   repeat refine c_r ?_
   refine ⟨k - s, by omega, rfl, s, k, by omega, by omega, hcut.down ho.trans hY hyk (ho.more (hold y hyY) hl), (vq1 h10), vq0, (vq1 h0), (vq1 h1), (vq1 h4), hEv1⟩
 intro hge
 simp only [decide_eq_false_iff_not] at hge
 have hes : e = s := by omega
 subst hes
 obtain ⟨Y1, hY1⟩ : ∃ Y1, Y.take e = Y1 := ⟨_, rfl⟩
 obtain ⟨Y2, hY2⟩ : ∃ Y2, Y.drop e = Y2 := ⟨_, rfl⟩
 have hY12 : Y1 ++ Y2 = Y := by rw [← hY1, ← hY2]; exact List.take_append_drop _ _
 have hY1l : Y1.length = e := by rw [← hY1]; simp; omega
 have hsorted := Cut.sorted (lt := lt) ho.trans hY hcut
 rw [hY1, hY2] at hsorted
 have hqe : ((q + e : Nat) : Int) - 1 = ((p + e : Nat) : Int) := by omega
 repeat refine c_r ?_
 refine rg1 h1 ?_
 repeat refine c_r ?_
 refine W_loop (fun m σ ds v' => ds = [] ∧ ∃ (i : Nat), i + m = e ∧ σ 13 = vi (p + i : Nat) ∧ σ 10 = vi (q + e : Nat) ∧ σ 0 = .slice (some ⟨b, 0, Option.none⟩) N cap ∧ Lies enc v' b cap (A ++ Y1.take i ++ u :: Y1.drop i ++ Y2 ++ B) ∧ Keep (fun i => i = b) w v') e ?_ ?_
 ·refine ⟨rfl, 0, by omega, ?_, ?_, ?_, ?_, Ext.keep hEv⟩
  ·simp only [↓reduceIte, go_sem, Nat.reduceLT, Nat.reduceEqDiff, Nat.reduceSub]; rfl
  ·simp only [↓reduceIte, go_sem, Nat.reduceLT, Nat.reduceEqDiff, Nat.reduceSub, h10]
  ·simp only [↓reduceIte, go_sem, Nat.reduceLT, Nat.reduceEqDiff, Nat.reduceSub, h0]
  ·have : A ++ Y1.take 0 ++ u :: Y1.drop 0 ++ Y2 ++ B = D := by rw [hDe, ← hY12]; simp
   rw [this]; exact hLv
 clear h10 h11 h0 h1 h4
 rintro m2 σ ds v2 ⟨rfl, i, him, h13, h10, h0, hL2, hK2⟩
 repeat refine c_r ?_
 refine rg3 h13 h10 hqe ?_
 repeat refine c_r ?_
 refine wc0 ?_ ?_
 ·intro hlt
  simp only [decide_eq_true_eq] at hlt
  have hiY : i < Y1.length := by omega
  obtain ⟨z, hz⟩ : ∃ z, Y1[i] = z := ⟨_, rfl⟩
  have hl1 : (A ++ Y1.take i).length = p + i := by simp; omega
  have e1 : A ++ Y1.take i ++ u :: Y1.drop i ++ Y2 ++ B = (A ++ Y1.take i) ++ u :: [] ++ z :: (Y1.drop (i + 1) ++ Y2 ++ B) := by
   rw [List.drop_eq_getElem_cons hiY, hz]; simp only [List.append_assoc, List.cons_append, List.nil_append]
  have e2 : (A ++ Y1.take i) ++ z :: [] ++ u :: (Y1.drop (i + 1) ++ Y2 ++ B) = A ++ Y1.take (i + 1) ++ u :: Y1.drop (i + 1) ++ Y2 ++ B := by
   rw [take_succ' hiY, hz]; simp only [List.append_assoc, List.cons_append, List.nil_append]
  rw [e1] at hL2
  have g1 : ((A ++ Y1.take i) ++ u :: [] ++ z :: (Y1.drop (i + 1) ++ Y2 ++ B))[p + i]? = some u := by
   rw [List.append_assoc, List.cons_append, ← hl1]; exact get_mid _ _ _
  have g2 : ((A ++ Y1.take i) ++ u :: [] ++ z :: (Y1.drop (i + 1) ++ Y2 ++ B))[p + i + 1]? = some z := by
   have := get_mid ((A ++ Y1.take i) ++ [u]) (Y1.drop (i + 1) ++ Y2 ++ B) z
   rwa [List.length_append, hl1] at this
  have hs : ((p + i : Nat) : Int) + 1 = ((p + i + 1 : Nat) : Int) := by push_cast; rfl
  have hY12l : Y1.length + Y2.length = Y.length := by rw [← hY12, List.length_append]
  have m1 := List.mem_of_getElem? g1
  have m2' := List.mem_of_getElem? g2
  repeat refine c_r ?_
  refine W_drw (fun i => i == 15 || i == 17) [(0, true), (1, true), (2, true), (3, true), (4, true), (5, true), (6, true), (7, true), (8, true), (9, true), (10, true), (11, true), (12, true), (13, true), (14, true), (15, false), (16, true), (17, false)] NoS mixed (by kernel_rfl) ?_; intro gd K x hgd hx hxe hK; clear hxe
  have hLz : Lies enc x b cap ((A ++ Y1.take i) ++ u :: [] ++ z :: (Y1.drop (i + 1) ++ Y2 ++ B)) := SD.ext hL2 hx
  have d3 := hLz.get g1
  have d4 := hLz.get g2
  simp (disch := first | omega | assumption | rfl) only [↓reduceIte, go_sem, Nat.reduceLT, Nat.reduceEqDiff, Nat.reduceSub, h13, h0, hs, d3, d4]
  refine SD.set (P := Tryz.prog) (t := 110) hLz (j := p + i) (by rw [List.length_map]; exact (List.getElem?_eq_some_iff.1 g1).1) (hL2.enc_len m2') (hL2.enc_one m2') rfl rfl ?_
  intro w2 hs2 hL3 hk2
  refine ⟨.inl rfl, ?_⟩
  simp (disch := first | omega | assumption | rfl) only [↓reduceIte, go_sem, Nat.reduceLT, Nat.reduceEqDiff, Nat.reduceSub, h13, hs]
  refine SD.set (P := Tryz.prog) (t := 110) hL3 (j := p + i + 1) (by rw [List.length_set, List.length_map]; exact (List.getElem?_eq_some_iff.1 g2).1) (hL2.enc_len m1) (hL2.enc_one m1) rfl rfl ?_
  intro w3 hs3 hL4 hk3
  refine ⟨.inl rfl, ?_⟩
  simp (disch := first | omega | assumption | rfl) only [↓reduceIte, go_sem, Nat.reduceLT, Nat.reduceEqDiff, Nat.reduceSub]
  refine hK _ _ ?_; clear hK hgd; clear K; try clear gd
  repeat refine c_r ?_
  refine rg2 h13 hs ?_
  repeat refine c_r ?_
  refine ⟨m2 - 1, by omega, rfl, i + 1, by omega, by simp only [↓reduceIte, go_sem, Nat.reduceLT, Nat.reduceEqDiff, Nat.reduceSub]; rfl, (vq1 h10), (vq1 h0), ?_, ((hK2.trans (Ext.keep hx)).trans hk2).trans hk3⟩
  rw [← e2]
  have := swap_two (A ++ Y1.take i) [] (Y1.drop (i + 1) ++ Y2 ++ B) u z (i := p + i) (j := p + i + 1) hl1.symm (by rw [hl1]; simp)
  unfold Lies
  rw [← this, List.map_set, List.map_set]
  exact hL4
 intro hge2
 simp only [decide_eq_false_iff_not] at hge2
 have hie : i = e := by omega
 subst hie
 repeat refine c_r ?_
 refine ret_none (by simp) rfl ⟨⟨Y1 ++ u :: Y2, ?_, hsorted, ?_⟩, hK2⟩
 ·rw [← hY12]
  have := (List.perm_middle (l₁ := Y1) (l₂ := Y2) (a := u)); exact this
 ·rw [List.take_of_length_le (by omega), List.drop_of_length_le (by omega)] at hL2
  have : A ++ (Y1 ++ u :: Y2) ++ B = A ++ Y1 ++ [u] ++ Y2 ++ B := by simp
  rw [this]; exact hL2
theorem symMerge_last {w0 w : World} {b cap : Nat} {U : α → Prop} {cf : α → α → Int} {lt older : α → α → Prop} {g : FuncId} {cb : List Value} (hc : Cmp w0 enc U cf g cb) (ho : Older cf lt older)
  {D A X B : List α} {u : α} {p q r N : Nat} (hDe : D = A ++ X ++ u :: B) (hN : D.length = N) (hp : A.length = p) (hq : p + X.length = q) (hr : q + 1 = r) (hX1 : X.length ≠ 1) (hUu : U u) (hU : ∀ y ∈ X, U y) (hX : X.Pairwise lt) (hold : ∀ x ∈ X, older x u)
  (hD : Lies enc w b cap D) (hlen : N ≤ 1000000000000) (hE : Ext w0 w) (hb : w0.heap.size ≤ b) :
  Fn Tryz.prog 241 #[dataV b N cap, vi p, vi q, vi r, cmpV g cb] w (fun _ w' => (∃ Z, Z.Perm (X ++ [u]) ∧ Z.Pairwise lt ∧ Lies enc w' b cap (A ++ Z ++ B)) ∧ Keep (fun i => i = b) w w') := by
 have hDl := congrArg List.length hDe
 simp only [List.length_append, List.length_cons] at hDl
 have hqp : ¬ ((q : Int) - p = 1) := by omega
 have hrq : (r : Int) - q = 1 := by omega
 unfold dataV cmpV
 refine enter Tryz.func241 Tryz.ntmps241 rfl rfl ?_
 repeat refine c_r ?_
 refine rg1 (decide_eq_false hqp) ?_
 repeat refine c_r ?_
 refine wc0 ?_ ?_
 ·intro h; simp at h
 intro _
 repeat refine c_r ?_
 refine rg2 hrq decide_true ?_
 repeat refine c_r ?_
 refine wc0 ?_ ?_
 rotate_left
 ·intro h; simp at h
 intro _
 repeat refine c_r ?_
 refine rg0 ?_
 repeat refine c_r ?_
 refine rg0 ?_
 repeat refine c_r ?_
 refine W_loop (fun m σ ds v => ds = [] ∧ ∃ (s e : Nat), s + m = e ∧ e ≤ X.length ∧ Cut lt u X s e ∧ σ 14 = vi (p + s : Nat) ∧ σ 15 = vi (p + e : Nat) ∧ σ 0 = .slice (some ⟨b, 0, Option.none⟩) N cap ∧ σ 2 = vi q ∧ σ 4 = .func (.func g) #[] cb.toArray ∧ Ext w v) X.length ?_ ?_
 ·refine ⟨rfl, 0, X.length, by omega, Nat.le_refl _, Cut.start u X, ?_, ?_, ?_, ?_, ?_, Keep.refl _ _⟩
  ·simp only [↓reduceIte, go_sem, Nat.reduceLT, Nat.reduceEqDiff, Nat.reduceSub]; rfl
  ·simp only [↓reduceIte, go_sem, Nat.reduceLT, Nat.reduceEqDiff, Nat.reduceSub, hq]
  ·simp only [↓reduceIte, go_sem, Nat.reduceLT, Nat.reduceEqDiff, Nat.reduceSub]
  ·simp only [↓reduceIte, go_sem, Nat.reduceLT, Nat.reduceEqDiff, Nat.reduceSub]
  ·simp only [↓reduceIte, go_sem, Nat.reduceLT, Nat.reduceEqDiff, Nat.reduceSub]
 rintro m σ ds v ⟨rfl, s, e, hse, he, hcut, h14, h15, h0, h2, h4, hEv⟩
 have hLv : Lies enc v b cap D := SD.ext hD hEv
 repeat refine c_r ?_
 refine rg2 h14 h15 ?_
 repeat refine c_r ?_
 refine wc0 ?_ ?_
 ·intro hlt
  simp only [decide_eq_true_eq] at hlt
  have hsum : ((p + s : Nat) : Int) + ((p + e : Nat) : Int) = ((p + s + (p + e) : Nat) : Int) := by push_cast; rfl
  obtain ⟨k, hk⟩ : ∃ k, (s + e) / 2 = k := ⟨_, rfl⟩
  have hdiv : (p + s + (p + e)) / 2 = p + k := by omega
  have hkX : k < X.length := by omega
  obtain ⟨y, hy⟩ : ∃ y, X[k] = y := ⟨_, rfl⟩
  have hyk : X[k]? = some y := by rw [List.getElem?_eq_getElem hkX, hy]
  have hyX : y ∈ X := by rw [← hy]; exact List.getElem_mem _
  have g1 : D[q]? = some u := by
   have := get_mid (A ++ X) B u
   rw [List.length_append, hp, hq] at this
   rw [hDe]; exact this
  have g2 : D[p + k]? = some y := by
   rw [hDe, List.append_assoc, List.getElem?_append_right (by omega), hp, Nat.add_sub_cancel_left, List.getElem?_append_left hkX]
   exact hyk
  repeat refine c_r ?_
  refine rg4 h14 h15 hsum hdiv ?_
  repeat refine c_r ?_
  refine W_drw (fun _ => false) [(0, true), (1, true), (2, true), (3, true), (4, true), (5, true), (6, true), (7, true), (8, true), (9, false), (10, true), (11, true)] NoS mixed (by kernel_rfl) ?_; intro gd K x hgd hx hxe hK; clear hxe
  have hLx : Lies enc x b cap D := SD.ext hLv hx
  have d1 := hLx.get g1
  have d2 := hLx.get g2
  simp (disch := first | omega | assumption | rfl) only [↓reduceIte, go_sem, Nat.reduceLT, Nat.reduceEqDiff, Nat.reduceSub, h0, h2, h4, d1, d2]
  refine call_of hc.cal (Fn.mono (hc.call x u y ((hE.trans hEv).trans hx) hUu (hU y hyX)) ?_)
  rintro _ w1 ⟨rfl, hE1⟩
  refine ⟨.inr (Ext.keep hE1), ?_⟩
  simp (disch := first | omega | assumption | rfl) only [↓reduceIte, go_sem, Nat.reduceLT, Nat.reduceEqDiff, Nat.reduceSub]
  refine hK _ _ ?_; clear hK hgd; clear K; try clear gd
  have hEv1 := (hEv.trans hx).trans hE1
  repeat refine c_r ?_
  refine wc0 ?_ ?_
  ·intro hl
   simp only [Bool.not_eq_true', decide_eq_false_iff_not] at hl
   repeat refine c_r ?_
   refine rg0 ?_
   repeat refine c_r ?_
   refine ⟨m - (k + 1 - s), by omega, rfl, k + 1, e, by omega, he, hcut.up ho.trans hX hyk (ho.more (hold y hyX) hl), by simp only [↓reduceIte, go_sem, Nat.reduceLT, Nat.reduceEqDiff, Nat.reduceSub]; push_cast; rfl, (vq1 h15), (vq1 h0), (vq1 h2), (vq1 h4), hEv1⟩
  ·intro hl
   simp only [Bool.not_eq_false', decide_eq_true_eq] at hl
   repeat refine c_r ?_
   refine rg0 ?_
   repeat refine c_r ?_
   refine ⟨k - s, by omega, rfl, s, k, by omega, by omega, hcut.down ho.trans hX hyk (ho.less (hold y hyX) hl), (vq1 h14), vq0, (vq1 h0), (vq1 h2), (vq1 h4), hEv1⟩
 intro hge
 simp only [decide_eq_false_iff_not] at hge
 have hes : e = s := by omega
 subst hes
 obtain ⟨X1, hX1'⟩ : ∃ X1, X.take e = X1 := ⟨_, rfl⟩
 obtain ⟨X2, hX2⟩ : ∃ X2, X.drop e = X2 := ⟨_, rfl⟩
 have hX12 : X1 ++ X2 = X := by rw [← hX1', ← hX2]; exact List.take_append_drop _ _
 have hX1l : X1.length = e := by rw [← hX1']; simp; omega
 have hX12l : X1.length + X2.length = X.length := by rw [← hX12, List.length_append]
 have hsorted := Cut.sorted (lt := lt) ho.trans hX hcut
 rw [hX1', hX2] at hsorted
 repeat refine c_r ?_
 refine rg1 h2 ?_
 repeat refine c_r ?_
 refine W_loop (fun m σ ds v' => ds = [] ∧ ∃ (i : Nat), i = m ∧ i ≤ X2.length ∧ σ 17 = vi (p + e + i : Nat) ∧ σ 14 = vi (p + e : Nat) ∧ σ 0 = .slice (some ⟨b, 0, Option.none⟩) N cap ∧ Lies enc v' b cap (A ++ X1 ++ X2.take i ++ u :: X2.drop i ++ B) ∧ Keep (fun i => i = b) w v') X2.length ?_ ?_
 ·refine ⟨rfl, X2.length, rfl, Nat.le_refl _, ?_, ?_, ?_, ?_, Ext.keep hEv⟩
  ·have : p + e + X2.length = q := by omega
   simp only [↓reduceIte, go_sem, Nat.reduceLT, Nat.reduceEqDiff, Nat.reduceSub, this]
  ·simp only [↓reduceIte, go_sem, Nat.reduceLT, Nat.reduceEqDiff, Nat.reduceSub, h14]
  ·simp only [↓reduceIte, go_sem, Nat.reduceLT, Nat.reduceEqDiff, Nat.reduceSub, h0]
  ·have : A ++ X1 ++ X2.take X2.length ++ u :: X2.drop X2.length ++ B = D := by rw [hDe, ← hX12]; simp
   rw [this]; exact hLv
 clear h14 h15 h0 h2 h4
 rintro m2 σ ds v2 ⟨rfl, i, him, hi2, h17, h14, h0, hL2, hK2⟩
 repeat refine c_r ?_
 refine rg2 h17 h14 ?_
 repeat refine c_r ?_
 refine wc0 ?_ ?_
 ·intro hlt
  simp only [decide_eq_true_eq] at hlt
  obtain ⟨j, hj⟩ : ∃ j, i = j + 1 := ⟨i - 1, by omega⟩
  subst hj
  have hjX : j < X2.length := by omega
  obtain ⟨z, hz⟩ : ∃ z, X2[j] = z := ⟨_, rfl⟩
  obtain ⟨c, hcq⟩ : ∃ c, p + e + j = c := ⟨_, rfl⟩
  have hl1 : (A ++ X1 ++ X2.take j).length = c := by simp; omega
  have e1 : A ++ X1 ++ X2.take (j + 1) ++ u :: X2.drop (j + 1) ++ B = (A ++ X1 ++ X2.take j) ++ z :: [] ++ u :: (X2.drop (j + 1) ++ B) := by
   rw [take_succ' hjX, hz]; simp only [List.append_assoc, List.cons_append, List.nil_append]
  have e2 : (A ++ X1 ++ X2.take j) ++ u :: [] ++ z :: (X2.drop (j + 1) ++ B) = A ++ X1 ++ X2.take j ++ u :: X2.drop j ++ B := by
   rw [List.drop_eq_getElem_cons hjX, hz]; simp only [List.append_assoc, List.cons_append, List.nil_append]
  rw [e1] at hL2
  have g1 : ((A ++ X1 ++ X2.take j) ++ z :: [] ++ u :: (X2.drop (j + 1) ++ B))[c]? = some z := by
   rw [List.append_assoc, List.cons_append, ← hl1]; exact get_mid _ _ _
  have g2 : ((A ++ X1 ++ X2.take j) ++ z :: [] ++ u :: (X2.drop (j + 1) ++ B))[c + 1]? = some u := by
   have := get_mid ((A ++ X1 ++ X2.take j) ++ [z]) (X2.drop (j + 1) ++ B) u
   rwa [List.length_append, hl1] at this
  have hc1 : p + e + (j + 1) = c + 1 := by omega
  rw [hc1] at h17
  have hs : ((c + 1 : Nat) : Int) - 1 = (c : Int) := by omega
  have m1 := List.mem_of_getElem? g1
  have m2' := List.mem_of_getElem? g2
  repeat refine c_r ?_
  refine W_drw (fun i => i == 15 || i == 17) [(0, true), (1, true), (2, true), (3, true), (4, true), (5, true), (6, true), (7, true), (8, true), (9, true), (10, true), (11, true), (12, true), (13, true), (14, true), (15, false), (16, true), (17, false)] NoS mixed (by kernel_rfl) ?_; intro gd K x hgd hx hxe hK; clear hxe
  have hLz : Lies enc x b cap ((A ++ X1 ++ X2.take j) ++ z :: [] ++ u :: (X2.drop (j + 1) ++ B)) := SD.ext hL2 hx
  have d3 := hLz.get g1
  have d4 := hLz.get g2
  simp (disch := first | omega | assumption | rfl) only [↓reduceIte, go_sem, Nat.reduceLT, Nat.reduceEqDiff, Nat.reduceSub, h17, h0, hs, d3, d4]
  refine SD.set (P := Tryz.prog) (t := 110) hLz (j := c + 1) (by rw [List.length_map]; exact (List.getElem?_eq_some_iff.1 g2).1) (hL2.enc_len m1) (hL2.enc_one m1) rfl rfl ?_
  intro w2 hs2 hL3 hk2
  refine ⟨.inl rfl, ?_⟩
  simp (disch := first | omega | assumption | rfl) only [↓reduceIte, go_sem, Nat.reduceLT, Nat.reduceEqDiff, Nat.reduceSub, h17, hs]
  refine SD.set (P := Tryz.prog) (t := 110) hL3 (j := c) (by rw [List.length_set, List.length_map]; exact (List.getElem?_eq_some_iff.1 g1).1) (hL2.enc_len m2') (hL2.enc_one m2') rfl rfl ?_
  intro w3 hs3 hL4 hk3
  refine ⟨.inl rfl, ?_⟩
  simp (disch := first | omega | assumption | rfl) only [↓reduceIte, go_sem, Nat.reduceLT, Nat.reduceEqDiff, Nat.reduceSub]
  refine hK _ _ ?_; clear hK hgd; clear K; try clear gd
  repeat refine c_r ?_
  refine rg2 h17 hs ?_
  repeat refine c_r ?_
  refine ⟨m2 - 1, by omega, rfl, j, by omega, by omega, (vq2 hs hcq), (vq1 h14), (vq1 h0), ?_, ((hK2.trans (Ext.keep hx)).trans hk2).trans hk3⟩
  rw [← e2]
  have := swap_two (A ++ X1 ++ X2.take j) [] (X2.drop (j + 1) ++ B) z u (i := c) (j := c + 1) hl1.symm (by rw [hl1]; simp)
  rw [List.set_comm _ _ (by omega)] at this
  unfold Lies
  rw [← this, List.map_set, List.map_set]
  exact hL4
 intro hge2
 simp only [decide_eq_false_iff_not] at hge2
 have hie : i = 0 := by omega
 subst hie
 repeat refine c_r ?_
 refine ret_none (by simp) rfl ⟨⟨X1 ++ u :: X2, ?_, hsorted, ?_⟩, hK2⟩
 ·rw [← hX12]
  refine (List.perm_middle (l₁ := X1) (l₂ := X2) (a := u)).trans ?_
  exact (List.perm_append_comm (l₁ := [u]) (l₂ := X1 ++ X2))
 ·rw [List.take_zero, List.drop_zero, List.append_nil] at hL2
  have : A ++ (X1 ++ u :: X2) ++ B = A ++ X1 ++ u :: X2 ++ B := by simp
  rw [this]; exact hL2
end
end Go.Proofs.YtopbbjdembnfdaaGreat.S_rec
