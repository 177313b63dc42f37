/- Plain laws on a step's inside (chapter 02): no program in sight. -/
import Derived.Test.YtcnbfpmognijcaaDoorPure5
namespace Galley
open Go

theorem tile_ins (s : ByteArray) (p j : Nat) (he : ¬ Ins s p) (h1 : 1 ≤ j) (hj : j < width s p) : insK s (p + j) = j := by
  have hl : j < long s p := (lt_width s p j h1).1 hj
  have hi := ins_mid s p j h1 hl
  obtain ⟨k1, k2, k3, k4⟩ := insK_spec s (p + j) hi
  have h4 := long_le s p
  rcases Nat.lt_trichotomy (insK s (p + j)) j with h | h | h
  · -- the found beginning lies inside this step
    have hi2 := ins_mid s p (j - insK s (p + j)) (by omega) (by omega)
    rw [show p + (j - insK s (p + j)) = p + j - insK s (p + j) by omega] at hi2
    exact absurd hi2 (not_ins_of_long s _ (by omega))
  · exact h
  · exact absurd ⟨insK s (p + j) - j, by omega, by omega, by omega, by rw [show p - (insK s (p + j) - j) = p + j - insK s (p + j) by omega]; omega⟩ he
theorem tile_floor (s : ByteArray) (p j : Nat) (he : ¬ Ins s p) (hj : j < width s p) : floorP s (p + j) = p := by
  rcases Nat.eq_zero_or_pos j with rfl | h
  · exact floor_self s p he
  · unfold floorP; rw [tile_ins s p j he h hj]; omega
theorem tile_ceil (s : ByteArray) (p j : Nat) (he : ¬ Ins s p) (h1 : 1 ≤ j) (hj : j < width s p) : ceilP s (p + j) = p + width s p := by
  unfold ceilP
  rw [tile_ins s p j he h1 hj, if_neg (by omega), show p + j - j = p by omega]
  have : long s p ≠ 0 := by have := (lt_width s p j h1).1 hj; omega
  unfold width; rw [if_neg this]
theorem not_whole (s : ByteArray) (p : Nat) (h : whole s p = false) : width s p = 1 ∧ rune s p = 65533 := by
  have hl : long s p = 0 := by
    unfold whole at h
    simpa using h
  exact ⟨by unfold width; rw [if_pos hl], rune_none s p hl⟩
theorem insK_zero (s : ByteArray) (p : Nat) (h : ¬ Ins s p) : insK s p = 0 := by
  refine Decidable.byContradiction fun hk => h ((ins_iff s p).2 hk)
theorem not_ins (s : ByteArray) (p : Nat) (h : insK s p = 0) : ¬ Ins s p := fun hi => (ins_iff s p).1 hi h
end Galley
