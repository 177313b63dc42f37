/- Plain laws on the list of steps, from the last on (chapter 02): no program in sight. -/
import Derived.Test.YtcnbfpmognijcaaDoorPure4
namespace Galley
open Go

theorem edge_back (s : ByteArray) (p : Nat) (h1 : 1 ≤ p) (he : ¬ Ins s p) :
    ¬ Ins s (floorP s (p - 1)) ∧ floorP s (p - 1) < p ∧ floorP s (p - 1) + width s (floorP s (p - 1)) = p := by
  have hle := floor_le s (p - 1)
  refine ⟨floor_edge s _, by omega, ?_⟩
  by_cases hi : Ins s (p - 1)
  · obtain ⟨k1, k2, k3, k4⟩ := insK_spec s (p - 1) hi
    have hf : floorP s (p - 1) = p - 1 - insK s (p - 1) := rfl
    generalize insK s (p - 1) = k at *
    rw [hf]
    have hl : long s (p - 1 - k) ≠ 0 := by omega
    have hw : width s (p - 1 - k) = long s (p - 1 - k) := by unfold width; rw [if_neg hl]
    rw [hw]
    rcases Nat.lt_or_ge (k + 1) (long s (p - 1 - k)) with h | h
    · have := ins_mid s (p - 1 - k) (k + 1) (by omega) h
      rw [show p - 1 - k + (k + 1) = p by omega] at this
      exact absurd this he
    · omega
  · rw [floor_self s _ hi]
    by_cases hl : long s (p - 1) = 0
    · have hw : width s (p - 1) = 1 := by unfold width; rw [if_pos hl]
      omega
    · have hw : width s (p - 1) = long s (p - 1) := by unfold width; rw [if_neg hl]
      rw [hw]
      rcases Nat.lt_or_ge 1 (long s (p - 1)) with h | h
      · have := ins_mid s (p - 1) 1 (by omega) h
        rw [show p - 1 + 1 = p by omega] at this
        exact absurd this he
      · omega
theorem ins_zero (s : ByteArray) : ¬ Ins s 0 := fun h => by have := ins_pos s 0 h; omega
theorem ins_end (s : ByteArray) : ¬ Ins s s.size := fun h => by have := ins_lt s s.size h; omega
/-- each edge is one of the steps' places, or the end -/
theorem posL_edge (s : ByteArray) : ∀ (n p : Nat), p ≤ n → p ≤ s.size → ¬ Ins s p → ∃ f, posL s = f ++ posAt s p
  | 0, p, hn, _, _ => ⟨[], by obtain rfl : p = 0 := by omega
                              rfl⟩
  | n + 1, p, hn, hp, he => by
    by_cases h0 : p = 0
    · exact ⟨[], by subst h0; rfl⟩
    · obtain ⟨e1, e2, e3⟩ := edge_back s p (by omega) he
      obtain ⟨f, hf⟩ := posL_edge s n (floorP s (p - 1)) (by omega) (by omega) e1
      exact ⟨f ++ [floorP s (p - 1)], by rw [hf, posAt_step s _ (by omega), e3]; simp⟩
end Galley
