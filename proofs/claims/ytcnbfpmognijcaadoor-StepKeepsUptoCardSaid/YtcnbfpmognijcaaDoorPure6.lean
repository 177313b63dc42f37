/- Plain laws on the list of edges (chapter 02): no program in sight. -/
import Derived.Test.YtcnbfpmognijcaaDoorTilesPure
namespace Galley
open Go

/-- the edges below p -/
def edgesTo (s : ByteArray) (p : Nat) : List Nat := (List.range p).filter fun q => insK s q == 0
theorem edgesTo_in (s : ByteArray) (p : Nat) (h : insK s p = 0) : edgesTo s (p + 1) = edgesTo s p ++ [p] := by
  unfold edgesTo; rw [List.range_succ, List.filter_append]; simp [h]
theorem edgesTo_out (s : ByteArray) (p : Nat) (h : insK s p ≠ 0) : edgesTo s (p + 1) = edgesTo s p := by
  unfold edgesTo; rw [List.range_succ, List.filter_append]; simp [h]
theorem edgesTo_skip (s : ByteArray) (p : Nat) : ∀ n, (∀ j, 1 ≤ j → j ≤ n → insK s (p + j) ≠ 0) → edgesTo s (p + 1 + n) = edgesTo s (p + 1)
  | 0, _ => rfl
  | n + 1, h => by
    rw [show p + 1 + (n + 1) = (p + (n + 1)) + 1 by omega, edgesTo_out s _ (h (n + 1) (by omega) (Nat.le_refl _)), show p + (n + 1) = p + 1 + n by omega]
    exact edgesTo_skip s p n (fun j h1 h2 => h j h1 (by omega))
theorem edgesTo_posAt (s : ByteArray) : ∀ (f p : Nat), s.size ≤ p + f → p ≤ s.size → insK s p = 0 → edgesTo s p ++ posAt s p ++ [s.size] = edgesTo s (s.size + 1)
  | 0, p, hf, hp, hi => by
    obtain rfl : p = s.size := by omega
    rw [posAt_end s _ (Nat.lt_irrefl _), edgesTo_in s _ hi]; simp
  | f + 1, p, hf, hp, hi => by
    by_cases h : p < s.size
    · have hne := not_ins s p hi
      have hw := width_pos s p
      have hwe := width_end s p h
      rw [posAt_step s p h]
      have h1 : edgesTo s (p + width s p) = edgesTo s p ++ [p] := by
        rw [show p + width s p = p + 1 + (width s p - 1) by omega, edgesTo_skip s p _ (fun j a b => by rw [tile_ins s p j hne a (by omega)]; omega), edgesTo_in s p hi]
      have := edgesTo_posAt s f (p + width s p) (by omega) hwe (insK_zero s _ (step_edge s p hne))
      rw [h1] at this
      rw [← this]; simp
    · obtain rfl : p = s.size := by omega
      rw [posAt_end s _ h, edgesTo_in s _ hi]; simp
/-- all edges: the steps' places, and the end -/
theorem edges_all (s : ByteArray) : edgesTo s (s.size + 1) = posL s ++ [s.size] := by
  have := edgesTo_posAt s s.size 0 (by omega) (Nat.zero_le _) (insK_zero s 0 (ins_zero s))
  rw [← this]
  rfl
theorem edgesTo_length (s : ByteArray) (p : Nat) : (edgesTo s p).length ≤ p := by
  unfold edgesTo
  refine Nat.le_trans (List.length_filter_le _ _) (by simp)
end Galley
