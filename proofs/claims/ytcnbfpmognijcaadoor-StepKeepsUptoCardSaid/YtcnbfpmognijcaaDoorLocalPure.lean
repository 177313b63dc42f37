/- The plain law of StepLocal: an edge hangs on three bytes each way. -/
import Derived.Test.YtcnbfpmognijcaaDoorPure3
namespace Galley
open Go

theorem append_size (a b : ByteArray) : (a ++ b).size = a.size + b.size := ByteArray.size_append
theorem bt_append_left (a b : ByteArray) (i : Nat) (h : i < a.size) : bt (a ++ b) i = bt a i := by
  rw [bt_get _ _ (by rw [append_size]; omega), bt_get _ _ h, ByteArray.getElem_append_left h]
theorem bt_append_right (a b : ByteArray) (i : Nat) (h : i < b.size) : bt (a ++ b) (a.size + i) = bt b i := by
  rw [bt_get _ _ (by rw [append_size]; omega), bt_get _ _ h, ByteArray.getElem_append_right (by omega)]
  congr 2
  omega

theorem rl_same (s t : ByteArray) (p q : Nat) (h1 : p + 3 < s.size) (h2 : q + 3 < t.size) (h : ∀ j, j < 4 → bt s (p + j) = bt t (q + j)) : rl s p = rl t q := by
  unfold rl
  have e0 := h 0 (by omega)
  have e1 := h 1 (by omega)
  have e2 := h 2 (by omega)
  have e3 := h 3 (by omega)
  rw [Nat.add_zero, Nat.add_zero] at e0
  rw [e0, e1, e2, e3]
  exact stepN_cut _ _ _ _ _ _ _ _ _ (by omega) (by omega) (by omega) (by omega) (fun _ => rfl) (fun _ => rfl) (fun _ => rfl)
theorem width_same (s t : ByteArray) (p q : Nat) (h : rl s p = rl t q) : width s p = width t q := by unfold width long; rw [h]
theorem insK_mid (a b c : ByteArray) (p : Nat) (h0 : 3 ≤ p) (h1 : p + 3 ≤ b.size) : insK (a ++ b ++ c) (a.size + p) = insK b p := by
  have hb : ∀ i, i < b.size → bt (a ++ b ++ c) (a.size + i) = bt b i := fun i hi => by
    rw [bt_append_left _ _ _ (by rw [append_size]; omega), bt_append_right _ _ _ hi]
  have hsz : (a ++ b ++ c).size = a.size + b.size + c.size := by rw [append_size, append_size]
  have key : ∀ k, 1 ≤ k → k ≤ 3 → width (a ++ b ++ c) (a.size + p - k) = width b (p - k) := fun k hk1 hk3 => by
    refine width_same _ _ _ _ (rl_same _ _ _ _ (by omega) (by omega) (fun j hj => ?_))
    rw [show a.size + p - k + j = a.size + (p - k + j) by omega, hb _ (by omega)]
  unfold insK
  rw [key 1 (by omega) (by omega), key 2 (by omega) (by omega), key 3 (by omega) (by omega)]
  have e1 : (1 ≤ a.size + p ∧ 1 < width b (p - 1)) = (1 ≤ p ∧ 1 < width b (p - 1)) := propext ⟨fun h => ⟨by omega, h.2⟩, fun h => ⟨by omega, h.2⟩⟩
  have e2 : (2 ≤ a.size + p ∧ 2 < width b (p - 2)) = (2 ≤ p ∧ 2 < width b (p - 2)) := propext ⟨fun h => ⟨by omega, h.2⟩, fun h => ⟨by omega, h.2⟩⟩
  have e3 : (3 ≤ a.size + p ∧ 3 < width b (p - 3)) = (3 ≤ p ∧ 3 < width b (p - 3)) := propext ⟨fun h => ⟨by omega, h.2⟩, fun h => ⟨by omega, h.2⟩⟩
  simp only [e1, e2, e3]
end Galley
