/- The contract of the statements' play: whatever script, a past in some state. -/
import Derived.Test.YtihfkoomimohbaaFix
import Derived.Test.YtihfkoomimohbaaPintWords
import Derived.Test.YtihfkoomimohbaaArgs
namespace Go.Proofs.Ytihfkoomimohbaa
open Go.RowKit Past17

theorem play_bad (first most : Int) (A : Option Addr) (c n : Nat) (w : World) (h : most < 0 ∨ 4096 < most) :
    Calls Try.prog 15 #[.int .i64 first, .int .i64 most, .slice A n c] w fun e w' => e = .returned (.pointer none) ∧ w' = w := by
  go_enter Try.func15, Try.ntmps15
  go_wp2_with fail
  refine (Pint.new_bad first most w h).mono ?_
  rintro e w1 ⟨rfl, rfl⟩
  go_wp2_with fail
  go_ret
  exact ⟨rfl, rfl⟩

set_option maxRecDepth 100000 in
set_option maxHeartbeats 4000000 in
theorem play_good (first : Int) (most : Nat) (A : Option Addr) (c n : Nat) (w : World) (h : most ≤ 4096) (hA : OpsAt w A n) :
    Calls Try.prog 15 #[.int .i64 first, .int .i64 most, .slice A n c] w fun e w' => ∃ m, e = .returned (.pointer (some ⟨w.heap.size, 0, none⟩)) ∧ Pint.Past w' w.heap.size w.heap.size m ∧ m.most = most ∧ Below w.heap.size w w' := by
  have HA := Lib.hid hA
  have hn := hA.1
  clear hA
  go_enter Try.func15, Try.ntmps15
  go_wp2_with fail
  refine (Pint.new_good first most w h).mono ?_
  rintro e w1 ⟨rfl, hw1⟩
  have P1 : Hid (Pint.Past w1 w.heap.size w.heap.size (newP first most)) := by rw [hw1]; exact Pint.past_new first most w _ (Nat.le_refl _) h
  have L1 : Hid (Below w.heap.size w w1) := by rw [hw1]; exact (Below.refl _ w).alloc (Nat.le_refl _) _
  clear hw1
  go_wp2_with fail
  go_loopw [25] (fun i wr => ∃ (k : Nat) (m : Pst Int), i = .int .i64 k ∧ k ≤ n ∧ Pint.Past wr w.heap.size w.heap.size m ∧ m.most = most ∧ Below w.heap.size w wr) (fun i _ => n - (intOf i).toNat)
  case atStart => exact ⟨0, newP first most, rfl, Nat.zero_le _, P1.out, rfl, L1.out⟩
  case round =>
    obtain ⟨k, m, rfl, hk, hP, hm, hbw⟩ := hrel
    have HW := Lib.hid hbw
    have HP := Lib.hid hP
    have HM := Lib.hid hm
    clear hbw hP hm
    by_cases hkl : k < n
    · obtain ⟨g, off, kd, s, wd, rfl, k0, k1, k2⟩ := (HA.out.below HW.out).2 k hkl
      obtain ⟨Wo, hWo⟩ : ∃ x, x = wr.alloc (.cells #[.int .i64 kd, .int .i64 s, .string wd] 68) := ⟨_, rfl⟩
      have hbo : Below wr.heap.size wr Wo := by rw [hWo]; exact (Below.refl _ wr).alloc (Nat.le_refl _) _
      have PO := Lib.hid (HP.out.below hbo)
      have LO := Lib.hid (HW.out.trans (hbo.mono HW.out.size))
      have HWo := Lib.hid hWo
      clear hbo hWo
      by_cases e1 : kd = 1
      · subst e1
        go_wp2_with fail
        rw [← HWo.out]
        refine (Pint.do_calls Wo w.heap.size w.heap.size m s wd PO.out).mono ?_
        rintro e w2 ⟨rfl, P2, _, L2⟩
        have P2 := Lib.hid P2
        have L2 := Lib.hid (LO.out.trans L2)
        go_wp2_with fail
        go_roundw
        case rel => exact ⟨k + 1, _, by go_num, by omega, P2.out, (most_do m s wd).trans HM.out, L2.out⟩
        case measure => simp [intOf]; omega
      by_cases e2 : kd = 2
      · subst e2
        go_wp2_with fail
        rw [← HWo.out]
        refine (Pint.undo_calls Wo w.heap.size w.heap.size m PO.out).mono ?_
        rintro e w2 ⟨rfl, P2, _, L2⟩
        have P2 := Lib.hid P2
        have L2 := Lib.hid (LO.out.trans L2)
        obtain ⟨va, hva⟩ : ∃ va, Pint.ansT (undoA m) = .tuple va := by unfold Pint.ansT; split <;> exact ⟨_, rfl⟩
        rw [hva]
        clear hva
        go_wp2_with fail
        go_roundw
        case rel => exact ⟨k + 1, _, by go_num, by omega, P2.out, (most_undo m).trans HM.out, L2.out⟩
        case measure => simp [intOf]; omega
      by_cases e3 : kd = 3
      · subst e3
        go_wp2_with fail
        rw [← HWo.out]
        refine (Pint.redo_calls Wo w.heap.size w.heap.size m PO.out).mono ?_
        rintro e w2 ⟨rfl, P2, _, L2⟩
        have P2 := Lib.hid P2
        have L2 := Lib.hid (LO.out.trans L2)
        obtain ⟨va, hva⟩ : ∃ va, Pint.ansT (redoA m) = .tuple va := by unfold Pint.ansT; split <;> exact ⟨_, rfl⟩
        rw [hva]
        clear hva
        go_wp2_with fail
        go_roundw
        case rel => exact ⟨k + 1, _, by go_num, by omega, P2.out, (most_redo m).trans HM.out, L2.out⟩
        case measure => simp [intOf]; omega
      by_cases e4 : kd = 4
      · subst e4
        go_wp2_with fail
        rw [← HWo.out]
        refine (Pint.begin_calls Wo w.heap.size w.heap.size m wd PO.out).mono ?_
        rintro e w2 ⟨rfl, P2, _, L2⟩
        have P2 := Lib.hid P2
        have L2 := Lib.hid (LO.out.trans L2)
        go_wp2_with fail
        go_roundw
        case rel => exact ⟨k + 1, _, by go_num, by omega, P2.out, (most_begin m wd).trans HM.out, L2.out⟩
        case measure => simp [intOf]; omega
      by_cases e5 : kd = 5
      · subst e5
        go_wp2_with fail
        rw [← HWo.out]
        refine (Pint.end_calls Wo w.heap.size w.heap.size m PO.out).mono ?_
        rintro e w2 ⟨rfl, P2, _, L2⟩
        have P2 := Lib.hid P2
        have L2 := Lib.hid (LO.out.trans L2)
        go_wp2_with fail
        go_roundw
        case rel => exact ⟨k + 1, _, by go_num, by omega, P2.out, (most_end m).trans HM.out, L2.out⟩
        case measure => simp [intOf]; omega
      by_cases e6 : kd = 6
      · subst e6
        go_wp2_with fail
        rw [← HWo.out]
        refine (Pint.forget_calls Wo w.heap.size w.heap.size m PO.out).mono ?_
        rintro e w2 ⟨rfl, P2, _, L2⟩
        have P2 := Lib.hid P2
        have L2 := Lib.hid (LO.out.trans L2)
        go_wp2_with fail
        go_roundw
        case rel => exact ⟨k + 1, _, by go_num, by omega, P2.out, (most_forget m).trans HM.out, L2.out⟩
        case measure => simp [intOf]; omega
      have f1 : (kd == 1) = false := beq_eq_false_iff_ne.2 e1
      have f2 : (kd == 2) = false := beq_eq_false_iff_ne.2 e2
      have f3 : (kd == 3) = false := beq_eq_false_iff_ne.2 e3
      have f4 : (kd == 4) = false := beq_eq_false_iff_ne.2 e4
      have f5 : (kd == 5) = false := beq_eq_false_iff_ne.2 e5
      have f6 : (kd == 6) = false := beq_eq_false_iff_ne.2 e6
      go_wp2_with fail
      rw [← HWo.out]
      go_roundw
      case rel => exact ⟨k + 1, m, by go_num, by omega, PO.out, HM.out, LO.out⟩
      case measure => simp [intOf]; omega
    · obtain rfl : k = n := by omega
      go_wp2_with fail
      go_ret
      exact ⟨m, rfl, HP.out, HM.out, HW.out⟩
end Go.Proofs.Ytihfkoomimohbaa
