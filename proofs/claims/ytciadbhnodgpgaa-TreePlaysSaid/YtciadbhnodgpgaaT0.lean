/-
  A tree as it lies: its names, its nodes.
  Conditions: none; plain facts.
-/
import Derived.Test.YtciadbhnodgpgaaC3
set_option linter.unusedVariables false
set_option linter.unusedSimpArgs false
set_option linter.defProp false
namespace Go.Proofs.Ytciadbhnodgpgaa
open Go

/-- the last k labels -/
def sfx (f : Nm) (k : Nat) : Nm := f.drop (f.length - k)
theorem sfx_zero (f : Nm) : sfx f 0 = [] := by simp [sfx]
theorem sfx_full (f : Nm) : sfx f f.length = f := by simp [sfx]
theorem sfx_cons {l : Lab} {f : Nm} {k : Nat} (h : k ≤ f.length) : sfx (l :: f) k = sfx f k := by
  unfold sfx
  rw [List.length_cons, show f.length + 1 - k = (f.length - k) + 1 from by omega, List.drop_succ_cons]
theorem sfx_succ {f : Nm} {k : Nat} (h : k < f.length) : sfx f (k + 1) = f[f.length - 1 - k] :: sfx f k := by
  unfold sfx
  rw [List.drop_eq_getElem_cons (by omega)]
  congr 1
  · congr 1; omega
  · congr 1; omega
theorem sfx_len {f : Nm} {k : Nat} (h : k ≤ f.length) : (sfx f k).length = k := by simp [sfx]; omega

def dep (names : List Nm) : Nm → Nat
  | [] => 0
  | l :: f => if l :: f ∈ names then f.length + 1 else dep names f

theorem dep_le (names : List Nm) : ∀ f, dep names f ≤ f.length
  | [] => Nat.le_refl _
  | l :: f => by
    unfold dep
    split
    · simp
    · have := dep_le names f; simp; omega

theorem range_mid {m x : Nat} {pre suf : List Nat} (h : List.range m = pre ++ x :: suf) : x = pre.length := by
  have h1 : (List.range m)[pre.length]? = some x := by rw [h]; simp
  rw [List.getElem?_eq_some_iff] at h1
  obtain ⟨h2, e⟩ := h1
  simpa using e.symm

/-- what lies of a tree -/
structure TS where
  names : List Nm
  val : Nm → Value
  has : Nm → Bool
  nb : Nm → Nat
  mb : Nm → Nat

structure TSok (z : Value) (s : TS) : Prop where
  nil : [] ∈ s.names
  tail : ∀ l f, l :: f ∈ s.names → f ∈ s.names
  nd : s.names.Nodup
  injn : ∀ f ∈ s.names, ∀ g ∈ s.names, s.nb f = s.nb g → f = g
  injm : ∀ f ∈ s.names, ∀ g ∈ s.names, s.mb f = s.mb g → f = g
  one : ∀ f, one (s.val f) = true
  out : ∀ f, f ∉ s.names → s.val f = z ∧ s.has f = false

theorem dep_in {z : Value} {s : TS} (hs : TSok z s) : ∀ f, sfx f (dep s.names f) ∈ s.names
  | [] => by simpa [sfx, dep] using hs.nil
  | l :: f => by
    unfold dep
    split
    · rename_i h
      have : sfx (l :: f) (f.length + 1) = l :: f := sfx_full (l :: f)
      rw [this]; exact h
    · rw [sfx_cons (dep_le _ _)]; exact dep_in hs f

theorem tail_in {z : Value} {s : TS} (hs : TSok z s) {f : Nm} (h : f ∈ s.names) : ∀ k, f.drop k ∈ s.names
  | 0 => by simpa using h
  | k + 1 => by
    have := tail_in hs h k
    rw [← List.drop_drop]
    rcases hd : f.drop k with _ | ⟨l, g⟩
    · simpa [hd] using hs.nil
    · rw [hd] at this
      simpa [hd] using hs.tail _ _ this

theorem sfx_sfx {f : Nm} {k j : Nat} (h : k ≤ j) (hj : j ≤ f.length) : sfx (sfx f j) k = sfx f k := by
  unfold sfx
  rw [List.drop_drop]
  congr 1
  simp; omega

theorem sfx_in {z : Value} {s : TS} (hs : TSok z s) {f : Nm} {k : Nat} (h : k ≤ dep s.names f) : sfx f k ∈ s.names := by
  have := tail_in hs (dep_in hs f) (dep s.names f - k)
  have hl := dep_le s.names f
  rwa [show (sfx f (dep s.names f)).drop (dep s.names f - k) = sfx f k from by
    unfold sfx; rw [List.drop_drop]; congr 1; omega] at this

theorem sfx_out {z : Value} {s : TS} (hs : TSok z s) : ∀ {f : Nm} {k : Nat}, dep s.names f < k → k ≤ f.length → sfx f k ∉ s.names
  | [], k, h, h2 => by simp at h2; omega
  | l :: f, k, h, h2 => by
    unfold dep at h
    split at h
    · simp at h2; omega
    · rename_i hn
      by_cases hk : k = f.length + 1
      · subst hk; have := sfx_full (l :: f); rw [List.length_cons] at this; rw [this]; exact hn
      · simp at h2
        rw [sfx_cons (by omega)]
        exact sfx_out hs h (by omega)

def kidsOf (names : List Nm) (f : Nm) : List Lab :=
  names.filterMap fun g => match g with
    | l :: h => if h = f then some l else Option.none
    | [] => Option.none

theorem mem_kidsOf {names : List Nm} {f : Nm} {l : Lab} : l ∈ kidsOf names f ↔ l :: f ∈ names := by
  simp only [kidsOf, List.mem_filterMap]
  constructor
  · rintro ⟨g, hg, h⟩
    cases g with
    | nil => cases h
    | cons a t =>
      simp only at h
      split at h
      · rename_i e; cases h; subst e; exact hg
      · cases h
  · intro h
    exact ⟨_, h, by simp⟩

abbrev ptrOf (b : Nat) : Value := .pointer (some ⟨b, 0, Option.none⟩)
def kidCells (s : TS) (f : Nm) : List (Lab × Value) := (kidsOf s.names f).map fun l => (l, ptrOf (s.nb (l :: f)))

theorem lookup_map {l : List Lab} {g : Lab → Value} {k : Lab} : (l.map fun x => (x, g x)).lookup k = if k ∈ l then some (g k) else Option.none := by
  induction l with
  | nil => simp
  | cons a l ih =>
    rw [List.map_cons, List.lookup_cons, ih]
    by_cases h : k = a
    · subst h; simp
    · have : (k == a) = false := by simpa using h
      rw [this]; simp [h]

theorem kid_lookup (s : TS) (f : Nm) (l : Lab) : (kidCells s f).lookup l = if l :: f ∈ s.names then some (ptrOf (s.nb (l :: f))) else Option.none := by
  unfold kidCells
  rw [lookup_map]
  simp only [mem_kidsOf]

structure TreeAt (tt nt : TypeId) (w : World) (tb : Nat) (s : TS) : Prop where
  root : w.heap[tb]? = some (.cells #[ptrOf (s.nb []), .int .i64 (IntKind.i64.wrap s.names.length)] tt (0, 0))
  node : ∀ f ∈ s.names, w.heap[s.nb f]? = some (.cells #[.map (some (s.mb f)), s.val f, .bool (s.has f)] nt (0, 0))
  map : ∀ f ∈ s.names, MapAt w (s.mb f) (kidCells s f)

theorem TreeAt.ext {tt nt : TypeId} {w x : World} {tb : Nat} {s : TS} (h : TreeAt tt nt w tb s) (hE : Ext w x) : TreeAt tt nt x tb s := by
  have hb : ∀ {b : Nat} {o : Obj}, w.heap[b]? = some o → x.heap[b]? = some o := fun {b o} h => (hE.block b (Array.getElem?_eq_some_iff.1 h).1 (fun h => h)).trans h
  refine ⟨hb h.root, fun f hf => hb (h.node f hf), fun f hf => ?_⟩
  obtain ⟨es, clk, h1, _⟩ := h.map f hf
  exact (h.map f hf).block (by rw [hb h1, h1])

def tblk (tb : Nat) (s : TS) : Nat → Prop := fun b => b = tb ∨ ∃ g ∈ s.names, b = s.nb g ∨ b = s.mb g

theorem TreeAt.lt {tt nt : TypeId} {w : World} {tb : Nat} {s : TS} (h : TreeAt tt nt w tb s) {b : Nat} (hb : tblk tb s b) : b < w.heap.size := by
  rcases hb with rfl | ⟨g, hg, rfl | rfl⟩
  · exact (Array.getElem?_eq_some_iff.1 h.root).1
  · exact (Array.getElem?_eq_some_iff.1 (h.node g hg)).1
  · obtain ⟨es, clk, h1, _⟩ := h.map g hg
    exact (Array.getElem?_eq_some_iff.1 h1).1

theorem TreeAt.keep {tt nt : TypeId} {w x : World} {tb : Nat} {s : TS} (h : TreeAt tt nt w tb s) (hE : ∀ b, tblk tb s b → x.heap[b]? = w.heap[b]?) : TreeAt tt nt x tb s :=
  ⟨(hE _ (.inl rfl)).trans h.root, fun f hf => (hE _ (.inr ⟨f, hf, .inl rfl⟩)).trans (h.node f hf), fun f hf => (h.map f hf).block (hE _ (.inr ⟨f, hf, .inr rfl⟩))⟩

/-- a name more -/
def TS.add (s : TS) (g : Nm) (B : Nat) (z : Value) : TS :=
  { names := s.names ++ [g], val := fun f => if f = g then z else s.val f, has := fun f => if f = g then false else s.has f,
    nb := fun f => if f = g then B + 1 else s.nb f, mb := fun f => if f = g then B else s.mb f }

theorem TSok.add {z : Value} {s : TS} (hs : TSok z s) {l : Lab} {h : Nm} {B : Nat} (hz : _root_.Go.Proofs.Ytciadbhnodgpgaa.one z = true) (hh : h ∈ s.names) (hg : l :: h ∉ s.names) (hn : ∀ f ∈ s.names, s.nb f < B) (hm : ∀ f ∈ s.names, s.mb f < B) : TSok z (s.add (l :: h) B z) := by
  have hmem : ∀ f, f ∈ (s.add (l :: h) B z).names ↔ f ∈ s.names ∨ f = l :: h := fun f => by simp [TS.add]
  refine ⟨by rw [hmem]; exact .inl hs.nil, ?_, ?_, ?_, ?_, ?_, ?_⟩
  · intro l' f hf
    rw [hmem] at hf ⊢
    rcases hf with hf | hf
    · exact .inl (hs.tail _ _ hf)
    · cases hf; exact .inl hh
  · simp only [TS.add, List.nodup_append]
    refine ⟨hs.nd, by simp, fun a ha b hb => ?_⟩
    simp at hb; subst hb
    rintro rfl; exact hg ha
  · intro f hf g' hg' he
    rw [hmem] at hf hg'
    simp only [TS.add] at he
    split at he <;> split at he
    · simp_all
    · rename_i h1 h2
      have := hn g' (hg'.resolve_right h2); omega
    · rename_i h1 h2
      have := hn f (hf.resolve_right h1); omega
    · rename_i h1 h2
      exact hs.injn f (hf.resolve_right h1) g' (hg'.resolve_right h2) he
  · intro f hf g' hg' he
    rw [hmem] at hf hg'
    simp only [TS.add] at he
    split at he <;> split at he
    · simp_all
    · rename_i h1 h2
      have := hm g' (hg'.resolve_right h2); omega
    · rename_i h1 h2
      have := hm f (hf.resolve_right h1); omega
    · rename_i h1 h2
      exact hs.injm f (hf.resolve_right h1) g' (hg'.resolve_right h2) he
  · intro f
    simp only [TS.add]
    split
    · exact hz
    · exact hs.one f
  · intro f hf
    rw [hmem] at hf
    have h1 : f ≠ l :: h := fun e => hf (.inr e)
    simp only [TS.add, if_neg h1]
    exact hs.out f (fun e => hf (.inl e))

theorem kidsOf_add (names : List Nm) (l : Lab) (h f : Nm) : kidsOf (names ++ [l :: h]) f = if f = h then kidsOf names f ++ [l] else kidsOf names f := by
  unfold kidsOf
  rw [List.filterMap_append]
  by_cases e : f = h
  · subst e; simp
  · have e' : ¬ h = f := fun x => e x.symm
    simp [e, e']

/-- the tree that has a name more, from what lies -/
theorem TreeAt.add {tt nt : TypeId} {w x : World} {tb : Nat} {z : Value} {s : TS} (ht : TreeAt tt nt w tb s) (hs : TSok z s) {l : Lab} {h : Nm} {B : Nat} (hh : h ∈ s.names) (hg : l :: h ∉ s.names) (hB : w.heap.size ≤ B)
    (hroot : x.heap[tb]? = some (.cells #[ptrOf (s.nb []), .int .i64 (IntKind.i64.wrap (s.names.length + 1))] tt (0, 0)))
    (hnew : x.heap[B + 1]? = some (.cells #[.map (some B), z, .bool false] nt (0, 0))) (hnm : MapAt x B [])
    (hmap : MapAt x (s.mb h) (kidCells s h ++ [(l, ptrOf (B + 1))]))
    (hrest : ∀ b, tblk tb s b → b ≠ tb → b ≠ s.mb h → x.heap[b]? = w.heap[b]?) : TreeAt tt nt x tb (s.add (l :: h) B z) := by
  have hmem : ∀ f, f ∈ (s.add (l :: h) B z).names ↔ f ∈ s.names ∨ f = l :: h := fun f => by simp [TS.add]
  have hne : ∀ {f}, f ∈ s.names → f ≠ l :: h := fun hf e => hg (e ▸ hf)
  have hnt : ∀ {f}, f ∈ s.names → s.nb f ≠ tb := fun {f} hf e => by
    have h1 := ht.node f hf; rw [e, ht.root] at h1; simp at h1
  have hnm' : ∀ {f g}, f ∈ s.names → g ∈ s.names → s.nb f ≠ s.mb g := fun {f g} hf hg e => by
    have h1 := ht.node f hf
    obtain ⟨es, clk, h2, _⟩ := ht.map g hg
    rw [e, h2] at h1; cases h1
  have hmt : ∀ {f}, f ∈ s.names → s.mb f ≠ tb := fun {f} hf e => by
    obtain ⟨es, clk, h2, _⟩ := ht.map f hf
    rw [e, ht.root] at h2; cases h2
  have hkc : ∀ f, f ∈ s.names → f ≠ h → kidCells (s.add (l :: h) B z) f = kidCells s f := fun f hf e => by
    unfold kidCells
    rw [show (s.add (l :: h) B z).names = s.names ++ [l :: h] from rfl, kidsOf_add, if_neg e]
    refine List.map_congr_left fun k hk => ?_
    rw [mem_kidsOf] at hk
    simp only [TS.add, if_neg (hne hk)]
  refine ⟨?_, ?_, ?_⟩
  · have e : (s.add (l :: h) B z).names.length = s.names.length + 1 := by simp [TS.add]
    have e2 : (s.add (l :: h) B z).nb [] = s.nb [] := by simp [TS.add]
    rw [e, e2, hroot]; push_cast; rfl
  · intro f hf
    rw [hmem] at hf
    rcases hf with hf | rfl
    · have h1 := hne hf
      simp only [TS.add, if_neg h1]
      exact (hrest _ (.inr ⟨f, hf, .inl rfl⟩) (hnt hf) (hnm' hf hh)).trans (ht.node f hf)
    · simp only [TS.add, if_pos]; exact hnew
  · intro f hf
    rw [hmem] at hf
    rcases hf with hf | rfl
    · have h1 := hne hf
      have e3 : (s.add (l :: h) B z).mb f = s.mb f := by simp [TS.add, h1]
      rw [e3]
      by_cases e : f = h
      · subst e
        have : kidCells (s.add (l :: f) B z) f = kidCells s f ++ [(l, ptrOf (B + 1))] := by
          unfold kidCells
          rw [show (s.add (l :: f) B z).names = s.names ++ [l :: f] from rfl, kidsOf_add, if_pos rfl, List.map_append]
          congr 1
          · refine List.map_congr_left fun k hk => ?_
            rw [mem_kidsOf] at hk
            simp only [TS.add, if_neg (hne hk)]
          · simp [TS.add]
        rw [this]; exact hmap
      · rw [hkc f hf e]
        exact (ht.map f hf).block (hrest _ (.inr ⟨f, hf, .inr rfl⟩) (hmt hf) (fun e' => e (hs.injm _ hf _ hh e')))
    · have e3 : (s.add (l :: h) B z).mb (l :: h) = B := by simp [TS.add]
      have e4 : kidCells (s.add (l :: h) B z) (l :: h) = [] := by
        unfold kidCells
        rw [show (s.add (l :: h) B z).names = s.names ++ [l :: h] from rfl, kidsOf_add, if_neg (by simp)]
        have : kidsOf s.names (l :: h) = [] := by
          rw [List.eq_nil_iff_forall_not_mem]
          intro k hk
          rw [mem_kidsOf] at hk
          exact hg (hs.tail _ _ hk)
        rw [this]; rfl
      rw [e3, e4]; exact hnm

/-- a name that has something -/
def TS.set (s : TS) (g : Nm) (v : Value) : TS := { s with val := fun f => if f = g then v else s.val f, has := fun f => if f = g then true else s.has f }

theorem TSok.set {z v : Value} {s : TS} (hs : TSok z s) {g : Nm} (hg : g ∈ s.names) (hv : _root_.Go.Proofs.Ytciadbhnodgpgaa.one v = true) : TSok z (s.set g v) := by
  refine ⟨hs.nil, hs.tail, hs.nd, hs.injn, hs.injm, ?_, ?_⟩
  · intro f; simp only [TS.set]; split
    · exact hv
    · exact hs.one f
  · intro f hf
    have hne : f ≠ g := fun e => hf (e ▸ hg)
    simp only [TS.set, if_neg hne]
    exact hs.out f hf

theorem TreeAt.set {tt nt : TypeId} {w x : World} {tb : Nat} {z v : Value} {s : TS} (ht : TreeAt tt nt w tb s) (hs : TSok z s) {g : Nm} (hg : g ∈ s.names)
    (hnew : x.heap[s.nb g]? = some (.cells #[.map (some (s.mb g)), v, .bool true] nt (0, 0))) (hrest : ∀ b, tblk tb s b → b ≠ s.nb g → x.heap[b]? = w.heap[b]?) : TreeAt tt nt x tb (s.set g v) := by
  refine ⟨?_, ?_, ?_⟩
  · refine (hrest tb (.inl rfl) (fun e => ?_)).trans ht.root
    have h1 := ht.node g hg; rw [← e, ht.root] at h1; simp at h1
  · intro f hf
    by_cases e : f = g
    · subst e
      simp only [TS.set, if_pos]; exact hnew
    · simp only [TS.set, if_neg e]
      exact (hrest _ (.inr ⟨f, hf, .inl rfl⟩) (fun e' => e (hs.injn _ hf _ hg e'))).trans (ht.node f hf)
  · intro f hf
    refine (ht.map f hf).block (hrest _ (.inr ⟨f, hf, .inr rfl⟩) (fun e => ?_))
    obtain ⟨es, clk, h2, _⟩ := ht.map f hf
    have h1 := ht.node g hg
    have e' : s.mb f = s.nb g := e
    rw [← e', h2] at h1; cases h1

/-- a round that turns nothing below -/
theorem KeepB.to_ext {n0 : Nat} {C : Nat → Prop} {w0 w x : World} (h0 : Ext w0 w) (h : KeepB n0 C w x) (hn : w0.heap.size ≤ n0) (hC : ∀ b, C b → w0.heap.size ≤ b) : Ext w0 x :=
  ⟨h.os.trans h0.os, h.tape.trans h0.tape, h.output.trans h0.output, Nat.le_trans h0.size h.size,
   fun b hb _ => (h.block b (by omega) (fun hc => by have := hC b hc; omega)).trans (h0.block b hb (fun x => x)), Nat.le_trans h0.drawn h.drawn⟩
end Go.Proofs.Ytciadbhnodgpgaa
