/- Many rows at a time: each in a block of its own; one is written, the others stay. No program in sight. -/
import Derived.WalkKit
import Derived.Below
import Derived.OneCell
import Derived.OwnWalk
import Derived.ArgAppend
import Derived.Laws.OwnMore
namespace Go.Many
open Go.RowKit

theorem add_none (g j : Nat) : (⟨g, 0, none⟩ : Addr).add j = ⟨g, j, none⟩ := by unfold Addr.add; split <;> simp_all
/-- each of the rows holds what F says -/
def Rw (e : TypeId) (w : World) (base : Nat) (us : List Value) (F : Nat → List Value → Prop) : Prop := ∀ (i : Nat) (v : Value), us[i]? = some v → ∃ xs, w.ownsRow base e 1 v xs.length xs ∧ F i xs
/-- no two lie in one block -/
def Apart (us : List Value) : Prop := ∀ (i j : Nat) (v u : Value) (g : Nat), us[i]? = some v → us[j]? = some u → v.ownBlock = some g → u.ownBlock = some g → i = j
def Under (us : List Value) (S : Nat) : Prop := ∀ (i : Nat) (v : Value) (g : Nat), us[i]? = some v → v.ownBlock = some g → g < S

theorem own_here {w : World} {base : Nat} {e : TypeId} {size n : Nat} {v : Value} {xs : List Value} (h : w.ownsRow base e size v n xs) {g : Nat} (hg : v.ownBlock = some g) : base ≤ g ∧ g < w.heap.size ∧ ∃ (cs : Array Value), w.heap[g]? = some (.cells cs e (0, 0)) := by
  rcases h.2 with ⟨rfl, _⟩ | ⟨g', cap, cur, rfl, hb, hg', _⟩
  · cases hg
  · cases hg; exact ⟨hb, (Array.getElem?_eq_some_iff.1 hg').1, _, hg'⟩
theorem own_stays {w w' : World} {base : Nat} {e : TypeId} {size n : Nat} {v : Value} {xs : List Value} (h : w.ownsRow base e size v n xs) (hs : ∀ g, v.ownBlock = some g → w'.heap[g]? = w.heap[g]?) : w'.ownsRow base e size v n xs := by
  refine ⟨h.1, ?_⟩
  rcases h.2 with hn | ⟨g, cap, cur, rfl, hb, hg, rest⟩
  · exact .inl hn
  · exact .inr ⟨g, cap, cur, rfl, hb, (hs g rfl).trans hg, rest⟩
theorem Rw.under {e : TypeId} {w : World} {base : Nat} {us : List Value} {F : Nat → List Value → Prop} (h : Rw e w base us F) : Under us w.heap.size := fun i v g hi hg => by
  obtain ⟨xs, h1, _⟩ := h i v hi
  exact (own_here h1 hg).2.1
theorem Rw.imp {e : TypeId} {w : World} {base : Nat} {us : List Value} {F G : Nat → List Value → Prop} (h : Rw e w base us F) (hf : ∀ i xs, i < us.length → F i xs → G i xs) : Rw e w base us G := fun i v hi => by
  obtain ⟨xs, h1, h2⟩ := h i v hi
  exact ⟨xs, h1, hf i xs (List.getElem?_eq_some_iff.1 hi).1 h2⟩
theorem Rw.far {e : TypeId} {w w' : World} {base : Nat} {us : List Value} {F : Nat → List Value → Prop} (h : Rw e w base us F) {row : Option Nat} (hg : w.grownBy w' row) (hr : ∀ (i : Nat) (v : Value) (g : Nat), us[i]? = some v → v.ownBlock = some g → some g ≠ row) : Rw e w' base us F := fun i v hi => by
  obtain ⟨xs, h1, h2⟩ := h i v hi
  exact ⟨xs, own_stays h1 (fun g e' => hg.block g (own_here h1 e').2.1 (hr i v g hi e')), h2⟩
theorem Rw.below {e : TypeId} {w w' : World} {base : Nat} {us : List Value} {F : Nat → List Value → Prop} (h : Rw e w base us F) (hb : Below w.heap.size w w') : Rw e w' base us F :=
  h.far (row := none) ⟨hb.os, hb.tape, hb.output, hb.size, fun k hk _ => hb.block k hk⟩ (fun _ _ _ _ _ e => by cases e)
theorem Rw.one {e : TypeId} {w w' : World} {base : Nat} {us : List Value} {F G : Nat → List Value → Prop} (h : Rw e w base us F) (ha : Apart us) {g i0 : Nat} {v0 : Value} (hi0 : us[i0]? = some v0) (hv0 : v0.ownBlock = some g) (hg : w.grownBy w' (some g))
    (h0 : ∃ xs, w'.ownsRow base e 1 v0 xs.length xs ∧ G i0 xs) (hf : ∀ i xs, i ≠ i0 → F i xs → G i xs) : Rw e w' base us G := fun i v hi => by
  by_cases hii : i = i0
  · subst hii
    rw [hi0] at hi
    cases hi
    exact h0
  · obtain ⟨xs, h1, h2⟩ := h i v hi
    refine ⟨xs, own_stays h1 (fun g' e' => hg.block g' (own_here h1 e').2.1 (fun e2 => ?_)), hf i xs hii h2⟩
    cases e2
    exact hii (ha i i0 v v0 g hi hi0 e' hv0)
theorem Apart.snoc {us : List Value} {S : Nat} {v : Value} (h : Apart us) (hu : Under us S) (hv : ∀ g, v.ownBlock = some g → S ≤ g) : Apart (us ++ [v]) := fun i j x y g hi hj hx hy => by
  have cs : ∀ (k : Nat) (z : Value), (us ++ [v])[k]? = some z → (k < us.length ∧ us[k]? = some z) ∨ (k = us.length ∧ z = v) := fun k z hk => by
    rcases Nat.lt_trichotomy k us.length with hl | hl | hl
    · rw [List.getElem?_append_left hl] at hk; exact .inl ⟨hl, hk⟩
    · subst hl
      rw [List.getElem?_append_right (Nat.le_refl _)] at hk
      simp at hk
      exact .inr ⟨rfl, hk.symm⟩
    · rw [List.getElem?_eq_none (by simp; omega)] at hk; cases hk
  rcases cs i x hi with ⟨_, h1⟩ | ⟨e1, rfl⟩ <;> rcases cs j y hj with ⟨_, h2⟩ | ⟨e2, rfl⟩
  · exact h i j x y g h1 h2 hx hy
  · have := hu i x g h1 hx; have := hv g hy; omega
  · have := hu j y g h2 hy; have := hv g hx; omega
  · omega
theorem Apart.snoc2 {us : List Value} {v : Value} (h : Apart us) (hv : ∀ (i : Nat) (u : Value) (g : Nat), us[i]? = some u → u.ownBlock = some g → v.ownBlock ≠ some g) : Apart (us ++ [v]) := fun i j x y g hi hj hx hy => by
  have cs : ∀ (k : Nat) (z : Value), (us ++ [v])[k]? = some z → (k < us.length ∧ us[k]? = some z) ∨ (k = us.length ∧ z = v) := fun k z hk => by
    rcases Nat.lt_trichotomy k us.length with hl | hl | hl
    · rw [List.getElem?_append_left hl] at hk; exact .inl ⟨hl, hk⟩
    · subst hl
      rw [List.getElem?_append_right (Nat.le_refl _)] at hk
      simp at hk
      exact .inr ⟨rfl, hk.symm⟩
    · rw [List.getElem?_eq_none (by simp; omega)] at hk; cases hk
  rcases cs i x hi with ⟨_, h1⟩ | ⟨e1, rfl⟩ <;> rcases cs j y hj with ⟨_, h2⟩ | ⟨e2, rfl⟩
  · exact h i j x y g h1 h2 hx hy
  · exact absurd hy (hv i x g h1 hx)
  · exact absurd hx (hv j y g h2 hy)
  · omega
theorem Rw.snoc {e : TypeId} {w : World} {base : Nat} {us : List Value} {F : Nat → List Value → Prop} (h : Rw e w base us F) {v : Value} {xs : List Value} (hv : w.ownsRow base e 1 v xs.length xs) (hf : F us.length xs) : Rw e w base (us ++ [v]) F := fun i z hi => by
  rcases Nat.lt_trichotomy i us.length with hl | hl | hl
  · rw [List.getElem?_append_left hl] at hi; exact h i z hi
  · subst hl
    rw [List.getElem?_append_right (Nat.le_refl _)] at hi
    simp at hi
    subst hi
    exact ⟨xs, hv, hf⟩
  · rw [List.getElem?_eq_none (by simp; omega)] at hi; cases hi
/-- a store into a row -/
theorem own_set {w : World} {base : Nat} {e : TypeId} {g n cap j : Nat} {xs : List Value} {c : Value} (h : w.ownsRow base e 1 (.slice (some ⟨g, 0, none⟩) n cap) n xs) : (w.setCell ⟨g, j, none⟩ c).ownsRow base e 1 (.slice (some ⟨g, 0, none⟩) n cap) n (xs.set j c) := by
  refine ⟨by rw [List.length_set]; exact h.1, ?_⟩
  rcases h.2 with ⟨e', _⟩ | ⟨g', cap', cur, e', hb, hg, hn, hm, hs, ht⟩
  · cases e'
  · cases e'
    refine .inr ⟨g, cap, cur.setIfInBounds j c, rfl, hb, heap_setCell_same w g j cur e c hg, hn, hm, by simpa using hs, ?_⟩
    rw [Array.toList_setIfInBounds, List.take_set, ht]
/-- a shorter row in the same block -/
theorem own_prefix {w : World} {base : Nat} {e : TypeId} {g n m cap : Nat} {xs : List Value} (h : w.ownsRow base e 1 (.slice (some ⟨g, 0, none⟩) n cap) n xs) (hm : m ≤ n) : w.ownsRow base e 1 (.slice (some ⟨g, 0, none⟩) m cap) m (xs.take m) := by
  have hl := h.1
  refine ⟨by rw [List.length_take]; omega, ?_⟩
  rcases h.2 with ⟨e', _⟩ | ⟨g', cap', cur, e', hb, hg, hn, hmm, hs, ht⟩
  · cases e'
  · cases e'
    refine .inr ⟨g, cap, cur, rfl, hb, hg, by omega, hmm, hs, ?_⟩
    rw [← ht, List.take_take]
    congr 1
    omega
theorem own_same {w : World} {base base' : Nat} {e : TypeId} {g n m cap cap' : Nat} {xs ys : List Value} (h : w.ownsRow base e 1 (.slice (some ⟨g, 0, none⟩) n cap) n xs) (h' : w.ownsRow base' e 1 (.slice (some ⟨g, 0, none⟩) m cap') m ys) (hm : m ≤ n) : xs.take m = ys := by
  rcases h.2 with ⟨e', _⟩ | ⟨g1, cap1, cur, e', _, hg, _, _, _, ht⟩
  · cases e'
  · cases e'
    rcases h'.2 with ⟨e', _⟩ | ⟨g2, cap2, cur2, e', _, hg2, _, _, _, ht2⟩
    · cases e'
    · cases e'
      rw [hg] at hg2
      cases hg2
      rw [← ht, ← ht2, List.take_take]
      congr 1
      omega
theorem own_len {w : World} {base : Nat} {e : TypeId} {size n m c : Nat} {A : Option Addr} {xs : List Value} (h : w.ownsRow base e size (.slice A n c) m xs) : m = n := by
  rcases h.2 with ⟨e', h0⟩ | ⟨g, cap, cur, e', _⟩
  · cases e'; exact h0
  · cases e'; rfl
theorem own_slice {w : World} {base : Nat} {e : TypeId} {size n : Nat} {v : Value} {xs : List Value} (h : w.ownsRow base e size v n xs) : ∃ A c, v = .slice A n c ∧ (A = none ∨ ∃ g, A = some ⟨g, 0, none⟩) := by
  rcases h.2 with ⟨e', h0⟩ | ⟨g, cap, cur, e', _⟩
  · exact ⟨none, 0, by rw [e', h0], .inl rfl⟩
  · exact ⟨_, _, e', .inr ⟨g, rfl⟩⟩
theorem own_cell {w : World} {base : Nat} {e : TypeId} {n c g : Nat} {xs : List Value} (h : w.ownsRow base e 1 (.slice (some ⟨g, 0, none⟩) n c) n xs) {j : Nat} {u : Value} (hj : xs[j]? = some u) : w.cell? ⟨g, j, none⟩ = some u ∧ w.frozen? ⟨g, j, none⟩ = false := by
  have h1 := h.cells (g := g) rfl j u hj
  rw [add_none] at h1
  obtain ⟨_, _, cs, hc⟩ := own_here h (g := g) rfl
  exact ⟨h1, by simp [World.frozen?, hc]⟩
theorem grown_set (W : World) (g j : Nat) (v : Value) : W.grownBy (W.setCell ⟨g, j, none⟩ v) (some g) :=
  ⟨rfl, rfl, rfl, by rw [World.size_setCell]; exact Nat.le_refl _, fun k _ hk => Below.heap_setCell _ _ _ k (fun e => hk (by rw [e]))⟩
/-- append of one element: in place, or in a new block -/
theorem wpList_append_two {P : Program} (w : World) {ops : Array Oper} {rest : List Oper} {o : Oper} {a : Act} {Q : Exit → Act → World → Prop} (hgd : o.guard = none) (s x : Operand) (t : TypeId)
    (ho : o.op = .call { callee := .builtin .append, args := #[s, x], argTypes := #[t, t] })
    (base : Nat) (e : TypeId) (i : TypeInfo) (z : Value) (bytes : Nat) (ht : P.underlying t = some (.slice e)) (hi : P.info? e = some i) (hz : i.zero = some z) (hsize : i.size = 1) (hby : i.bytes = bytes) (hzs : z.cells.size = 1)
    (v : Value) (n : Nat) (xs : List Value) (hs : a.eval s = v) (hown : w.ownsRow base e 1 v n xs) (y : Value) (xg : Nat) (hx : a.eval x = .slice (some ⟨xg, 0, none⟩) 1 1) (hy : w.cell? ⟨xg, 0, none⟩ = some y) (hy1 : y.oneCell' = true)
    (hn : n + 1 ≤ 4294967296) (hbb : bytes ≤ 1024) (hbase : base ≤ w.heap.size)
    (h : ∀ v' w', w'.ownsRow base e 1 v' (n + 1) (xs ++ [y]) → ((∃ g cap, v = .slice (some ⟨g, 0, none⟩) n cap ∧ v' = .slice (some ⟨g, 0, none⟩) (n + 1) cap ∧ w.grownBy w' (some g)) ∨ (w.grownBy w' none ∧ ∃ g cap, v' = .slice (some ⟨g, 0, none⟩) (n + 1) cap ∧ w.heap.size ≤ g)) → wpList P ops Q rest (a.put o.dst v') w') : wpList P ops Q (o :: rest) a w := by
  have hnews : ∀ j u, [y][j]? = some u → w.cell? ((⟨xg, 0, none⟩ : Addr).add j) = some u := fun j u hj => by
    cases j with
    | zero => simp at hj; subst hj; rw [add_none]; exact hy
    | succ j => simp at hj
  have hone : ∀ u ∈ [y], u.oneCell' = true := fun u hu => by rw [List.mem_singleton.1 hu]; exact hy1
  have hbig : (n + 1) * bytes ≤ 140737488355328 := Nat.le_trans (Nat.mul_le_mul hn hbb) (by decide)
  have grow : ∀ (ao : Option Addr) (cap : Nat), v = .slice ao n cap → (ao = none → n = 0 ∧ cap = 0) → cap < n + 1 → (∀ b, ao = some b → ∀ j u, xs[j]? = some u → w.cell? (b.add j) = some u) → wpList P ops Q (o :: rest) a w := fun ao cap hv hnone hfull hold => by
    refine wpList_append_grows w hgd s x t ho e i z 1 bytes ht hi hz hsize hby hzs (by decide) ao n cap xs (hs.trans hv) hnone (by have := hown.1; omega) hold ⟨xg, 0, none⟩ 1 1 [y] hx rfl hnews hone hfull (by unfold maxLen; omega) hbig ?_
    intro v' w' h1 h2
    obtain ⟨g, cap', rfl, hb, _⟩ := (show ∃ g cap, v' = .slice (some ⟨g, 0, none⟩) (n + 1) cap ∧ w.heap.size ≤ g ∧ g < w'.heap.size by
      rcases h1.2 with ⟨_, h0⟩ | ⟨g, cap, cur, hv, hb, hg, _⟩
      · omega
      · exact ⟨g, cap, hv, hb, (Array.getElem?_eq_some_iff.1 hg).1⟩)
    refine h _ w' ⟨h1.1, h1.2.imp id fun ⟨g, c, cur, q1, q2, q3⟩ => ⟨g, c, cur, q1, Nat.le_trans hbase q2, q3⟩⟩ (.inr ⟨h2, g, cap', rfl, hb⟩)
  rcases hown.2 with ⟨hv, hn0⟩ | ⟨g, cap, cur, hv, hb, hg, hnc, hm, hcs, htk⟩
  · exact grow none 0 (by rw [hv, hn0]) (fun _ => ⟨hn0, rfl⟩) (by omega) (fun b e => by cases e)
  · by_cases hc : n + 1 ≤ cap
    · subst hv
      refine wpList_append_fits w hgd s x t ho base e i 1 ht hi hsize g n cap xs hs hown ⟨xg, 0, none⟩ 1 1 [y] hx rfl hnews hone hc ?_
      intro w' h1 h2
      exact h _ w' h1 (.inl ⟨g, cap, rfl, rfl, h2⟩)
    · refine grow (some ⟨g, 0, none⟩) cap hv (fun e => by cases e) (by omega) (fun b e j u hj => ?_)
      cases e
      subst hv
      exact hown.cells (g := g) rfl j u hj
end Go.Many
