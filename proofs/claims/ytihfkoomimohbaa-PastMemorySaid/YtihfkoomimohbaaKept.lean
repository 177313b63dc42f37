/- What a call's own row of numbers or strings leaves of a past and of rows of strings. -/
import Derived.Test.YtihfkoomimohbaaDoes
import Derived.Deep.CutRange
import Derived.RangeFuncBox
namespace Go.Proofs.Ytihfkoomimohbaa
open Go.RowKit Past17

/-- whatever is of another type than e stays -/
def But (e : TypeId) (w w' : World) : Prop := ∀ (g : Nat) (cs : Array Value) (t : TypeId) (fr : Nat × Nat), w.heap[g]? = some (.cells cs t fr) → t ≠ e → w'.heap[g]? = some (.cells cs t fr)
theorem But.of_grown {e : TypeId} {a b : World} {row : Option Nat} (h : a.grownBy b row) (hr : ∀ g, row = some g → ∃ (cs : Array Value) (fr : Nat × Nat), a.heap[g]? = some (.cells cs e fr)) : But e a b := fun g cs t fr h1 h2 => by
  refine (h.block g (Array.getElem?_eq_some_iff.1 h1).1 (fun e' => ?_)).trans h1
  obtain ⟨cs', fr', h3⟩ := hr g e'.symm
  rw [h1] at h3; cases h3; exact h2 rfl
theorem But.trans {e : TypeId} {a b c : World} (h : But e a b) (k : But e b c) : But e a c := fun g cs t fr h1 h2 => k g cs t fr (h g cs t fr h1 h2) h2
theorem But.of_below {e : TypeId} {a b : World} (h : Below a.heap.size a b) : But e a b := fun g _ _ _ h1 _ => (h.block g (Array.getElem?_eq_some_iff.1 h1).1).trans h1
theorem but_row {e e' : TypeId} {w w' : World} (h : But e w w') (hne : e' ≠ e) {base size n : Nat} {v : Value} {xs : List Value} (hr : w.ownsRow base e' size v n xs) : w'.ownsRow base e' size v n xs := by
  refine ⟨hr.1, ?_⟩
  rcases hr.2 with hn | ⟨g, cap, cur, rfl, hb, hg, rest⟩
  · exact .inl hn
  · exact .inr ⟨g, cap, cur, rfl, hb, h g _ _ _ hg hne, rest⟩
theorem but_past {e : TypeId} {w w' : World} {base b : Nat} {m : Pst Int} (h : But e w w') (h1 : 54 ≠ e) (h2 : 78 ≠ e) (h3 : 80 ≠ e) (hP : Pint.Past w base b m) : Pint.Past w' base b m := by
  obtain ⟨vb, va, vo, p⟩ := hP
  refine ⟨vb, va, vo, p.hb, h _ _ _ _ p.blk h1, but_row h h2 p.rb, but_row h h2 p.ra, p.dis, ?_, p.ok⟩
  have ho := p.op
  cases hm : m.opn with
  | none => rw [hm] at ho; exact ho
  | some x =>
    obtain ⟨s, wd, did⟩ := x
    rw [hm] at ho
    obtain ⟨o, e1, e2, e3⟩ := ho
    exact ⟨o, e1, e2, h _ _ _ _ e3 h3⟩
theorem spares_row {w w' : World} {e : TypeId} (h : Pint.Spares w w') (h1 : e ≠ 54) (h2 : e ≠ 78) (h3 : e ≠ 80) {base size n : Nat} {v : Value} {xs : List Value} (hr : w.ownsRow base e size v n xs) : w'.ownsRow base e size v n xs := by
  refine ⟨hr.1, ?_⟩
  rcases hr.2 with hn | ⟨g, cap, cur, rfl, hb, hg, rest⟩
  · exact .inl hn
  · exact .inr ⟨g, cap, cur, rfl, hb, h g _ _ _ hg h1 h2 h3, rest⟩
theorem infoInt : (Try.prog.info? 3).map (fun i => (i.zero, i.size, i.bytes)) = some (some (.int .i64 0), 1, 8) := by kernel_rfl
end Go.Proofs.Ytihfkoomimohbaa
