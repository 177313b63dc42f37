/- The past as a plain machine: Undos, and as many Redos. -/
import Derived.Test.YtihfkoomimohbaaQ3
namespace Past17
variable {α : Type}

theorem undoP_some {m : Pst α} {x : α × ByteArray} (h : m.opn = none) (hx : m.back.getLast? = some x) : undoP m = { st := x.1, most := m.most, back := m.back.dropLast, again := m.again ++ [(m.st, x.2)], opn := none } := by
  simp [undoP, h, hx]
/-- behind k Undos -/
def undos (m : Pst α) : Nat → Pst α
  | 0 => m
  | k + 1 => undoP (undos m k)
theorem undos_back {m : Pst α} (h : m.opn = none) : ∀ k, k ≤ m.back.length → (undos m k).opn = none ∧ (undos m k).back = m.back.take (m.back.length - k)
  | 0, _ => ⟨h, by simp [undos]⟩
  | k + 1, hk => by
    obtain ⟨h1, h2⟩ := undos_back h k (by omega)
    have hl : (undos m k).back ≠ [] := by
      rw [h2]; intro e
      have := congrArg List.length e
      rw [List.length_take, List.length_nil] at this
      omega
    obtain ⟨x, hx⟩ : ∃ x, (undos m k).back.getLast? = some x := ⟨_, List.getLast?_eq_some_getLast hl⟩
    have e : undos m (k + 1) = _ := undoP_some h1 hx
    rw [e]
    refine ⟨rfl, ?_⟩
    show (undos m k).back.dropLast = _
    rw [h2, List.dropLast_eq_take, List.take_take, List.length_take]
    congr 1
    omega
theorem undos_step {m : Pst α} (h : m.opn = none) (k : Nat) (hk : k < m.back.length) :
    ∃ x : α × ByteArray, undoA (undos m k) = (some x, 0) ∧ (wordsP m.back)[k]? = some x.2 ∧ redoA (undos m (k + 1)) = (some ((undos m k).st, x.2), 0) ∧ redoP (undos m (k + 1)) = undos m k := by
  obtain ⟨h1, h2⟩ := undos_back h k (by omega)
  have hl : (undos m k).back ≠ [] := by
    rw [h2]; intro e
    have := congrArg List.length e
    rw [List.length_take, List.length_nil] at this
    omega
  obtain ⟨x, hx⟩ : ∃ x, (undos m k).back.getLast? = some x := ⟨_, List.getLast?_eq_some_getLast hl⟩
  have e : undos m (k + 1) = _ := undoP_some h1 hx
  have hb : (undos m k).back = (undos m k).back.dropLast ++ [x] := by
    have := List.dropLast_concat_getLast hl
    rw [List.getLast?_eq_some_getLast hl] at hx
    rw [← Option.some.inj hx]
    exact this.symm
  have hw : m.back[m.back.length - 1 - k]? = some x := by
    have := hx
    rw [h2, List.getLast?_eq_getElem?, List.length_take, List.getElem?_take] at this
    rw [if_pos (by omega)] at this
    rw [← this]
    congr 1
    omega
  refine ⟨x, ?_, ?_, ?_, ?_⟩
  · simp [undoA, h1, hx]
  · unfold wordsP
    rw [List.getElem?_map, List.getElem?_reverse (by omega), hw]; rfl
  · rw [e]; simp [redoA]
  · rw [e]
    unfold redoP
    simp only [List.getLast?_concat, List.dropLast_concat]
    rw [show (undos m k).back.dropLast ++ [(x.1, x.2)] = (undos m k).back from hb.symm]
    have h3 : ∀ p : Pst α, p.opn = none → ({ st := p.st, most := p.most, back := p.back, again := p.again, opn := none } : Pst α) = p := fun p hp => by cases p; cases hp; rfl
    exact h3 _ h1
end Past17
