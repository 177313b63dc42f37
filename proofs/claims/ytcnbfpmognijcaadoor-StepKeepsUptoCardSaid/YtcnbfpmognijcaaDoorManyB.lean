/- What the writing of one type's rows leaves of another's. No program in sight. -/
import Derived.Test.YtcnbfpmognijcaaDoorMany
namespace Go.Many
open Go.RowKit

/-- whatever is of another type than e stays -/
def But (e : TypeId) (w w' : World) : Prop := ∀ (g : Nat) (cs : Array Value) (t : TypeId) (fr : Nat × Nat), w.heap[g]? = some (.cells cs t fr) → t ≠ e → w'.heap[g]? = some (.cells cs t fr)
theorem But.of_grown {e : TypeId} {a b : World} {row : Option Nat} (h : a.grownBy b row) (hr : ∀ g, row = some g → ∃ (cs : Array Value) (fr : Nat × Nat), a.heap[g]? = some (.cells cs e fr)) : But e a b := fun g cs t fr h1 h2 => by
  refine (h.block g (Array.getElem?_eq_some_iff.1 h1).1 (fun e' => ?_)).trans h1
  obtain ⟨cs', fr', h3⟩ := hr g e'.symm
  rw [h1] at h3; cases h3; exact h2 rfl
theorem But.trans {e : TypeId} {a b c : World} (h : But e a b) (k : But e b c) : But e a c := fun g cs t fr h1 h2 => k g cs t fr (h g cs t fr h1 h2) h2
theorem But.of_below {e : TypeId} {a b : World} (h : Below a.heap.size a b) : But e a b := fun g _ _ _ h1 _ => (h.block g (Array.getElem?_eq_some_iff.1 h1).1).trans h1
theorem but_row {e e' : TypeId} {w w' : World} (h : But e w w') (hne : e' ≠ e) {base size n : Nat} {v : Value} {xs : List Value} (hr : w.ownsRow base e' size v n xs) : w'.ownsRow base e' size v n xs := by
  refine ⟨hr.1, ?_⟩
  rcases hr.2 with hn | ⟨g, cap, cur, rfl, hb, hg, rest⟩
  · exact .inl hn
  · exact .inr ⟨g, cap, cur, rfl, hb, h g _ _ _ hg hne, rest⟩
theorem rw_but {e e' : TypeId} {w w' : World} {base : Nat} {us : List Value} {F : Nat → List Value → Prop} (h : Rw e w base us F) (hb : But e' w w') (hne : e ≠ e') : Rw e w' base us F := fun i v hi => by
  obtain ⟨xs, h1, h2⟩ := h i v hi
  exact ⟨xs, but_row hb hne h1, h2⟩
theorem row_mono {w : World} {base base' : Nat} {e : TypeId} {size n : Nat} {v : Value} {xs : List Value} (h : w.ownsRow base e size v n xs) (hb : base' ≤ base) : w.ownsRow base' e size v n xs :=
  ⟨h.1, h.2.imp id fun ⟨g, cap, cur, h1, h2, h3⟩ => ⟨g, cap, cur, h1, Nat.le_trans hb h2, h3⟩⟩
/-- what an append of one element (in place or in a new block) may write -/
theorem two_but {e : TypeId} {w w' : World} {base n : Nat} {v v' : Value} {xs : List Value} (h : w.ownsRow base e 1 v n xs)
    (hc : (∃ g cap, v = .slice (some ⟨g, 0, none⟩) n cap ∧ v' = .slice (some ⟨g, 0, none⟩) (n + 1) cap ∧ w.grownBy w' (some g)) ∨ (w.grownBy w' none ∧ ∃ g cap, v' = .slice (some ⟨g, 0, none⟩) (n + 1) cap ∧ w.heap.size ≤ g)) :
    But e w w' ∧ w.heap.size ≤ w'.heap.size ∧ (∀ {B : Nat} {a : World}, Below B a w → B ≤ w.heap.size → B ≤ base → Below B a w') := by
  rcases hc with ⟨g, cap, rfl, rfl, hg⟩ | ⟨hg, g, cap, rfl, hge⟩
  · obtain ⟨gb, gl, cs, gc⟩ := own_here h (g := g) rfl
    exact ⟨But.of_grown hg (fun g' e => by cases e; exact ⟨cs, _, gc⟩), hg.size, fun hB hl hb => hB.grown hg hl (fun k e => by cases e; omega)⟩
  · exact ⟨But.of_grown hg (fun g' e => by cases e), hg.size, fun hB hl _ => hB.grown hg hl (fun k e => by cases e)⟩
end Go.Many
