/- Contract of the reference's Valid. -/
import Derived.Test.YtcnbfpmognijcaaDoorRefS
import Derived.Test.YtcnbfpmognijcaaDoorPure7
namespace Go.Proofs.YtcnbfpmognijcaaDoor
open Go.RowKit Galley Go.Proofs.YtcnbfpmognijcaaDoorW.PrintWords

set_option maxHeartbeats 400000 in
theorem refValid_calls (A : Option Addr) (c : Nat) (s : ByteArray) (w : World) (hb : Byt w A c s) (hs : s.size ≤ 1073741824) :
    Calls Tryd.prog 31 #[.slice A s.size c] w fun e w' => e = .returned (.bool (validB s)) ∧ Below w.heap.size w w' := by
  have hps := posL_length s
  have HB := Lib.hid hb
  clear hb
  go_enter Tryd.func31, Tryd.ntmps31
  go_wp2_with fail
  refine (refSteps_calls A c s _ HB.out hs).mono ?_
  rintro e w1 ⟨v, rfl, hrow, h1⟩
  obtain ⟨A1, c1, rfl, hget⟩ := steps_of_row hrow
  have H1 := Lib.hid h1
  have HG := Lib.hid hget
  clear h1 hrow hget
  go_wp2_with fail
  go_loopw [4] (fun i wr => ∃ k : Nat, k ≤ (posL s).length ∧ i = .int .i64 k ∧ wr = w1 ∧ Hid (∀ j q, j < k → (posL s)[j]? = some q → whole s q = true)) (fun i _ => (posL s).length - (intOf i).toNat)
  case atStart => exact ⟨0, Nat.zero_le _, rfl, rfl, fun j q h => absurd h (Nat.not_lt_zero _)⟩
  case round =>
    obtain ⟨k, hk, rfl, rfl, hall⟩ := hrel
    by_cases hlt : k < (posL s).length
    · obtain ⟨q, hq⟩ : ∃ q, (posL s)[k]? = some q := ⟨_, List.getElem?_eq_getElem hlt⟩
      obtain ⟨g, rfl, k1, k2, k3⟩ := HG.out k q hq
      have HQ := Lib.hid hq
      clear hq
      obtain ⟨wh, hwh⟩ : ∃ wh, whole s q = wh := ⟨_, rfl⟩
      rw [hwh] at k3
      have HWh := Lib.hid hwh
      clear hwh
      cases wh with
      | true =>
        go_wp2_with fail
        go_roundw
        case rel =>
          refine ⟨k + 1, by omega, by go_num, trivial, fun j q' hj hq' => ?_⟩
          rcases Nat.lt_or_ge j k with h | h
          · exact hall.out j q' h hq'
          · obtain rfl : j = k := by omega
            have := HQ.out.symm.trans hq'
            cases this
            exact HWh.out
        case measure => simp [intOf]; omega
      | false =>
        have hf : validB s = false := by
          rw [valid_all]
          cases h : (posL s).all (whole s) with
          | false => rfl
          | true =>
            have := List.all_eq_true.1 h q (List.mem_of_getElem? HQ.out)
            rw [HWh.out] at this; cases this
        have HF := Lib.hid hf
        clear hf
        go_wp2_with fail
        go_ret
        exact ⟨by rw [HF.out]; rfl, H1.out⟩
    · obtain rfl : k = (posL s).length := by omega
      have hf : validB s = true := by
        rw [valid_all]
        refine List.all_eq_true.2 fun q hq => ?_
        obtain ⟨j, hj⟩ := List.getElem?_of_mem hq
        exact hall.out j q (by have := (List.getElem?_eq_some_iff.1 hj).1; exact this) hj
      have HF := Lib.hid hf
      clear hf
      go_wp2_with fail
      go_ret
      exact ⟨by rw [HF.out]; rfl, H1.out⟩
end Go.Proofs.YtcnbfpmognijcaaDoor
