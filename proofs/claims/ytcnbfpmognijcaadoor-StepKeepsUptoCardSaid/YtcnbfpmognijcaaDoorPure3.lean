/- Plain laws on what goes over a place, and on edges (chapter 02): no program in sight. -/
import Derived.Test.YtcnbfpmognijcaaDoorPure2
namespace Galley
open Go

/-- how far ahead of p the encoding begins that goes over p; 0: none does -/
def insK (s : ByteArray) (p : Nat) : Nat :=
  if 1 ≤ p ∧ 1 < width s (p - 1) then 1
  else if 2 ≤ p ∧ 2 < width s (p - 2) then 2
  else if 3 ≤ p ∧ 3 < width s (p - 3) then 3
  else 0
theorem insK_le (s : ByteArray) (p : Nat) : insK s p ≤ 3 ∧ insK s p ≤ p := by
  unfold insK; repeat' split
  all_goals omega
/-- the search upwards finds it -/
theorem insK_found (s : ByteArray) (p k : Nat) (h1 : 1 ≤ k) (h3 : k ≤ 3) (hp : k ≤ p) (h : k < width s (p - k))
    (hno : ∀ j, 1 ≤ j → j < k → width s (p - j) ≤ j) : insK s p = k := by
  have : k = 1 ∨ k = 2 ∨ k = 3 := by omega
  unfold insK
  rcases this with rfl | rfl | rfl
  · rw [if_pos ⟨by omega, h⟩]
  · have := hno 1 (by omega) (by omega)
    rw [if_neg (by omega), if_pos ⟨by omega, h⟩]
  · have a1 := hno 1 (by omega) (by omega)
    have a2 := hno 2 (by omega) (by omega)
    rw [if_neg (by omega), if_neg (by omega), if_pos ⟨by omega, h⟩]
theorem insK_none (s : ByteArray) (p k : Nat) (hk : 3 < k ∨ p < k) (hno : ∀ j, 1 ≤ j → j < k → width s (p - j) ≤ j) : insK s p = 0 := by
  unfold insK
  have a1 : 1 ≤ p → width s (p - 1) ≤ 1 := fun h => hno 1 (by omega) (by omega)
  have a2 : 2 ≤ p → width s (p - 2) ≤ 2 := fun h => hno 2 (by omega) (by omega)
  have a3 : 3 ≤ p → width s (p - 3) ≤ 3 := fun h => hno 3 (by omega) (by omega)
  rw [if_neg (fun h => by have := a1 h.1; omega), if_neg (fun h => by have := a2 h.1; omega), if_neg (fun h => by have := a3 h.1; omega)]

/-- does an encoding that begins one, two or three bytes ahead end behind p? -/
def Ins (s : ByteArray) (p : Nat) : Prop := ∃ k, 1 ≤ k ∧ k ≤ 3 ∧ k ≤ p ∧ k < long s (p - k)
theorem lt_width (s : ByteArray) (q k : Nat) (hk : 1 ≤ k) : k < width s q ↔ k < long s q := by
  unfold width; split <;> omega
theorem ins_iff (s : ByteArray) (p : Nat) : Ins s p ↔ insK s p ≠ 0 := by
  constructor
  · rintro ⟨k, h1, h3, hp, h⟩ h0
    rw [← lt_width s (p - k) k h1] at h
    unfold insK at h0
    have : k = 1 ∨ k = 2 ∨ k = 3 := by omega
    split at h0
    · omega
    · split at h0
      · omega
      · split at h0
        · omega
        · rcases this with rfl | rfl | rfl <;> omega
  · intro h
    unfold insK at h
    split at h
    · rename_i c; exact ⟨1, by omega, by omega, c.1, (lt_width _ _ _ (by omega)).1 c.2⟩
    · split at h
      · rename_i c; exact ⟨2, by omega, by omega, c.1, (lt_width _ _ _ (by omega)).1 c.2⟩
      · split at h
        · rename_i c; exact ⟨3, by omega, by omega, c.1, (lt_width _ _ _ (by omega)).1 c.2⟩
        · exact absurd rfl h
instance (s : ByteArray) (p : Nat) : Decidable (Ins s p) := decidable_of_iff _ (ins_iff s p).symm

/-- the bytes of an encoding behind its first are 80 to BF, and its first is none of these -/
theorem cont_of_long (s : ByteArray) (p j : Nat) (h1 : 1 ≤ j) (h : j < long s p) : 128 ≤ bt s (p + j) ∧ bt s (p + j) ≤ 191 := by
  unfold long rl at h
  rcases stepN_cases (s.size - p) (bt s p) (bt s (p + 1)) (bt s (p + 2)) (bt s (p + 3)) with ⟨e, c⟩ | ⟨e, c⟩ | ⟨e, c⟩ | ⟨e, c⟩ | e
  all_goals rw [e] at h
  all_goals simp only at h
  · omega
  · obtain rfl : j = 1 := by omega
    omega
  · have : j = 1 ∨ j = 2 := by omega
    rcases this with rfl | rfl <;> omega
  · have : j = 1 ∨ j = 2 ∨ j = 3 := by omega
    rcases this with rfl | rfl | rfl <;> omega
  · omega
theorem lead_of_long (s : ByteArray) (p : Nat) (h : long s p ≠ 0) : bt s p < 128 ∨ 192 ≤ bt s p := by
  unfold long rl at h
  rcases stepN_cases (s.size - p) (bt s p) (bt s (p + 1)) (bt s (p + 2)) (bt s (p + 3)) with ⟨e, c⟩ | ⟨e, c⟩ | ⟨e, c⟩ | ⟨e, c⟩ | e
  all_goals rw [e] at h
  all_goals simp only at h
  all_goals omega
/-- an encoding begins at no place that another goes over -/
theorem not_ins_of_long (s : ByteArray) (p : Nat) (h : long s p ≠ 0) : ¬ Ins s p := by
  rintro ⟨k, h1, h3, hp, hk⟩
  have h2 := cont_of_long s (p - k) k h1 hk
  have := lead_of_long s p h
  rw [show p - k + k = p by omega] at h2
  omega
theorem ins_pos (s : ByteArray) (p : Nat) (h : Ins s p) : 0 < p := by obtain ⟨k, h1, _, hp, _⟩ := h; omega
theorem ins_lt (s : ByteArray) (p : Nat) (h : Ins s p) : p < s.size := by
  obtain ⟨k, h1, h3, hp, hk⟩ := h
  have := long_end s (p - k)
  omega
/-- what lies between an encoding's beginning and its end is inside; its beginning, and its end, are not -/
theorem ins_mid (s : ByteArray) (p j : Nat) (h1 : 1 ≤ j) (h : j < long s p) : Ins s (p + j) := by
  have := long_le s p
  exact ⟨j, h1, by omega, by omega, by rw [show p + j - j = p by omega]; exact h⟩
theorem insK_spec (s : ByteArray) (p : Nat) (h : Ins s p) : insK s p ≠ 0 ∧ insK s p ≤ 3 ∧ insK s p ≤ p ∧ insK s p < long s (p - insK s p) := by
  have h0 := (ins_iff s p).1 h
  refine ⟨h0, (insK_le s p).1, (insK_le s p).2, ?_⟩
  unfold insK at h0 ⊢
  split at h0
  · rename_i c; rw [if_pos c]; exact (lt_width _ _ _ (by omega)).1 c.2
  · rename_i c; rw [if_neg c]
    split at h0
    · rename_i c; rw [if_pos c]; exact (lt_width _ _ _ (by omega)).1 c.2
    · rename_i c; rw [if_neg c]
      split at h0
      · rename_i c; rw [if_pos c]; exact (lt_width _ _ _ (by omega)).1 c.2
      · exact absurd rfl h0
/-- the floor: the last edge at or ahead of p -/
def floorP (s : ByteArray) (p : Nat) : Nat := p - insK s p
theorem floor_self (s : ByteArray) (p : Nat) (h : ¬ Ins s p) : floorP s p = p := by
  have : insK s p = 0 := by rcases Nat.eq_zero_or_pos (insK s p) with h0 | h0; exact h0; exact absurd ((ins_iff s p).2 (by omega)) h
  unfold floorP; omega
theorem floor_edge (s : ByteArray) (p : Nat) : ¬ Ins s (floorP s p) := by
  by_cases h : Ins s p
  · obtain ⟨h0, h3, hp, hk⟩ := insK_spec s p h
    exact not_ins_of_long s _ (by unfold floorP; omega)
  · rw [floor_self s p h]; exact h
theorem floor_le (s : ByteArray) (p : Nat) : floorP s p ≤ p := by unfold floorP; omega
theorem floor_between (s : ByteArray) (p q : Nat) (h1 : floorP s p < q) (h2 : q ≤ p) (h : Ins s p) : Ins s q := by
  obtain ⟨h0, h3, hp, hk⟩ := insK_spec s p h
  unfold floorP at h1
  have := ins_mid s (p - insK s p) (q - (p - insK s p)) (by omega) (by omega)
  rwa [show p - insK s p + (q - (p - insK s p)) = q by omega] at this
/-- the ceiling: the first edge at or behind p -/
def ceilP (s : ByteArray) (p : Nat) : Nat := if insK s p = 0 then p else p - insK s p + long s (p - insK s p)
/-- the place behind a step is an edge -/
theorem step_edge (s : ByteArray) (p : Nat) (hp : ¬ Ins s p) : ¬ Ins s (p + width s p) := by
  rintro ⟨k, h1, h3, hk, hl⟩
  by_cases hw : long s p = 0
  · have hw1 : width s p = 1 := by unfold width; rw [if_pos hw]
    rw [hw1] at hk hl
    rcases Nat.lt_or_ge 1 k with h | h
    · apply hp
      refine ⟨k - 1, by omega, by omega, by omega, ?_⟩
      rw [show p - (k - 1) = p + 1 - k by omega]; omega
    · obtain rfl : k = 1 := by omega
      rw [show p + 1 - 1 = p by omega] at hl; omega
  · have hw1 : width s p = long s p := by unfold width; rw [if_neg hw]
    rw [hw1] at hk hl
    rcases Nat.lt_trichotomy k (long s p) with h | h | h
    · -- the encoding begins inside p's own
      have h2 := cont_of_long s p (long s p - k) (by omega) (by omega)
      have h3 := lead_of_long s (p + long s p - k) (by omega)
      rw [show p + (long s p - k) = p + long s p - k by omega] at h2
      omega
    · rw [show p + long s p - k = p by omega] at hl; omega
    · apply hp
      refine ⟨k - long s p, by omega, by omega, by omega, ?_⟩
      rw [show p - (k - long s p) = p + long s p - k by omega]; omega
theorem ceil_self (s : ByteArray) (p : Nat) (h : ¬ Ins s p) : ceilP s p = p := by
  have : insK s p = 0 := by rcases Nat.eq_zero_or_pos (insK s p) with h0 | h0; exact h0; exact absurd ((ins_iff s p).2 (by omega)) h
  unfold ceilP; rw [if_pos this]
theorem ceil_ins (s : ByteArray) (p : Nat) (h : Ins s p) : p < ceilP s p ∧ ceilP s p ≤ p + 3 ∧ ceilP s p ≤ s.size ∧ ¬ Ins s (ceilP s p) ∧ ∀ q, p ≤ q → q < ceilP s p → Ins s q := by
  obtain ⟨h0, h3, hp, hk⟩ := insK_spec s p h
  have h4 := long_le s (p - insK s p)
  have h5 := long_end s (p - insK s p)
  unfold ceilP
  rw [if_neg h0]
  refine ⟨by omega, by omega, by omega, ?_, fun q h1 h2 => ?_⟩
  · have := step_edge s (p - insK s p) (not_ins_of_long s _ (by omega))
    unfold width at this
    rwa [if_neg (by omega)] at this
  · have := ins_mid s (p - insK s p) (q - (p - insK s p)) (by omega) (by omega)
    rwa [show p - insK s p + (q - (p - insK s p)) = q by omega] at this
end Galley
