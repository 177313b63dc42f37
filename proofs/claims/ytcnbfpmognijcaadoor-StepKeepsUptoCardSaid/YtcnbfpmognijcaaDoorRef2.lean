/- The contract of the reference's Long, by the table. -/
import Derived.Test.YtcnbfpmognijcaaDoorRef
import Derived.Test.YtcnbfpmognijcaaDoorStep2
namespace Go.Proofs.YtcnbfpmognijcaaDoor
open Go.RowKit Galley Go.Proofs.YtcnbfpmognijcaaDoorW.PrintWords

set_option maxHeartbeats 4000000 in
theorem longI_stepN (n x y z u : Nat) (hx : x < 256) (hy : y < 256) (hz : z < 256) (hu : u < 256) :
    longI (if 0 < n then (x : Int) else -1) (if 1 < n then (y : Int) else -1) (if 2 < n then (z : Int) else -1) (if 3 < n then (u : Int) else -1) = ((stepN n x y z u).2 : Int) := by
  simp only [longI, inB, Bool.and_eq_true, Bool.or_eq_true, decide_eq_true_eq, beq_iff_eq]
  unfold stepN
  by_cases c3 : 3 < n
  · have c0 : 0 < n := by omega
    have c1 : 1 < n := by omega
    have c2 : 2 < n := by omega
    simp only [c0, c1, c2, c3, if_true, true_and]
    repeat' split
    all_goals first | rfl | (exfalso; omega) | (simp; done)
  · by_cases c2 : 2 < n
    · have c0 : 0 < n := by omega
      have c1 : 1 < n := by omega
      simp only [c0, c1, c2, c3, if_true, if_false, true_and, false_and]
      repeat' split
      all_goals first | rfl | (exfalso; omega) | (simp; done)
    · by_cases c1 : 1 < n
      · have c0 : 0 < n := by omega
        simp only [c0, c1, c2, c3, if_true, if_false, true_and, false_and]
        repeat' split
        all_goals first | rfl | (exfalso; omega) | (simp; done)
      · by_cases c0 : 0 < n
        · simp only [c0, c1, c2, c3, if_true, if_false, true_and, false_and]
          repeat' split
          all_goals first | rfl | (exfalso; omega) | (simp; done)
        · simp only [c0, c1, c2, c3, if_false, false_and]
          repeat' split
          all_goals first | rfl | (exfalso; omega) | (simp; done)
theorem atI_add (s : ByteArray) (p : Int) (j : Nat) (h0 : 0 ≤ p) : atI s (p + j) = if j < s.size - p.toNat then (Galley.bt s (p.toNat + j) : Int) else -1 := by
  unfold atI
  by_cases h : j < s.size - p.toNat
  · rw [if_pos (by omega), if_pos h, show (p + j).toNat = p.toNat + j by omega]
  · rw [if_neg (by omega), if_neg h]
theorem longI_long (s : ByteArray) (p : Int) (h0 : 0 ≤ p) : longI (atI s p) (atI s (p + 1)) (atI s (p + 2)) (atI s (p + 3)) = (long s p.toNat : Int) := by
  have e0 := atI_add s p 0 h0
  have e1 := atI_add s p 1 h0
  have e2 := atI_add s p 2 h0
  have e3 := atI_add s p 3 h0
  simp only [Int.natCast_zero, Int.add_zero, Nat.add_zero] at e0
  simp only [Int.ofNat_one] at e1
  rw [e0, e1, show p + 2 = p + ((2 : Nat) : Int) from rfl, e2, show p + 3 = p + ((3 : Nat) : Int) from rfl, e3]
  exact longI_stepN _ _ _ _ _ (Galley.bt_lt _ _) (Galley.bt_lt _ _) (Galley.bt_lt _ _) (Galley.bt_lt _ _)
theorem refLong_calls (A : Option Addr) (c : Nat) (s : ByteArray) (p : Int) (w : World) (hb : Byt w A c s) (h0 : 0 ≤ p) (hp : p ≤ 1152921504606846976) :
    Calls Tryd.prog 40 #[.slice A s.size c, .int .i64 p] w fun e w' => e = .returned (.int .i64 (long s p.toNat)) ∧ w = w' := by
  have h := refLong_any A c s p w hb h0 hp
  rwa [longI_long s p h0] at h

end Go.Proofs.YtcnbfpmognijcaaDoor
