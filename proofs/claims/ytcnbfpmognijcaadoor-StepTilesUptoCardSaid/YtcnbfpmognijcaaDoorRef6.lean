/- Contracts of the reference's Before; and the answers of program and reference side by side. -/
import Derived.Test.YtcnbfpmognijcaaDoorRef5
import Derived.Test.YtcnbfpmognijcaaDoorStep2
namespace Go.Proofs.YtcnbfpmognijcaaDoor
open Go.RowKit Galley Go.Proofs.YtcnbfpmognijcaaDoorW.PrintWords

set_option maxHeartbeats 400000 in
theorem refBefore_out (A : Option Addr) (c : Nat) (s : ByteArray) (p : Int) (w : World) (h : p < 1 ∨ s.size < p) :
    Calls Tryd.prog 20 #[.slice A s.size c, .int .i64 p] w fun e w' => e = .returned (.tuple #[.agg #[.int .i32 0, .int .i64 0, .bool false], .int .i64 2]) ∧ Below w.heap.size w w' := by
  rcases h with h | h
  · have t1 : decide (p < 1) = true := decide_eq_true h
    go_enter Tryd.func20, Tryd.ntmps20
    go_wp2_with fail
    refine bodyPost_ret (v := .tuple #[.agg #[.int .i32 0, .int .i64 0, .bool false], .int .i64 2]) (by simp [results, Tryd.results20, go_sem]) rfl ⟨rfl, ?_⟩
    exact (Below.refl _ _).alloc (Nat.le_refl _) _
  · have t1 : decide (p < 1) = false := decide_eq_false (by omega)
    have t2 : decide ((s.size : Int) < p) = true := decide_eq_true h
    go_enter Tryd.func20, Tryd.ntmps20
    go_wp2_with fail
    refine bodyPost_ret (v := .tuple #[.agg #[.int .i32 0, .int .i64 0, .bool false], .int .i64 2]) (by simp [results, Tryd.results20, go_sem]) rfl ⟨rfl, ?_⟩
    exact (Below.refl _ _).alloc (Nat.le_refl _) _

set_option maxHeartbeats 400000 in
theorem refBefore_ins (A : Option Addr) (c : Nat) (s : ByteArray) (p : Int) (w : World) (hb : Byt w A c s) (h0 : 1 ≤ p) (hp : p ≤ s.size) (hi : insK s p.toNat ≠ 0) :
    Calls Tryd.prog 20 #[.slice A s.size c, .int .i64 p] w fun e w' => e = .returned (.tuple #[.agg #[.int .i32 0, .int .i64 0, .bool false], .int .i64 4]) ∧ Below w.heap.size w w' := by
  have hmax := hb.small
  have HI := Lib.hid (insB_eq s p true (by simp [hi]))
  have hb' := fun o => hb.below (((Below.refl _ w).alloc (Nat.le_refl _) o))
  have HB := Lib.hid hb'
  clear hb hb' hi
  have t1 : decide (p < 1) = false := decide_eq_false (by omega)
  have t2 : decide ((s.size : Int) < p) = false := decide_eq_false (by omega)
  go_enter Tryd.func20, Tryd.ntmps20
  go_wp2_with (go_at_call 36; refine (refInside_calls A c s p _ (HB.out _) (by omega) (by omega)).mono ?_; rw [HI.out]; rintro e w' ⟨rfl, rfl⟩)
  refine bodyPost_ret (v := .tuple #[.agg #[.int .i32 0, .int .i64 0, .bool false], .int .i64 4]) (by simp [results, Tryd.results20, go_sem]) rfl ⟨rfl, ?_⟩
  exact (Below.refl _ _).alloc (Nat.le_refl _) _

set_option maxHeartbeats 400000 in
theorem refBefore_ok (A : Option Addr) (c : Nat) (s : ByteArray) (p : Int) (w : World) (hb : Byt w A c s) (h0 : 1 ≤ p) (hp : p ≤ s.size) (hi : insK s p.toNat = 0) :
    Calls Tryd.prog 20 #[.slice A s.size c, .int .i64 p] w fun e w' => e = .returned (.tuple #[.agg #[.int .i32 (rune s (begP s p)), .int .i64 (width s (begP s p)), .bool (whole s (begP s p))], .int .i64 0]) ∧ Below w.heap.size w w' := by
  have hmax := hb.small
  have HI := Lib.hid (insB_eq s p false (by simp [hi]))
  have hb' := fun o => hb.below (((Below.refl _ w).alloc (Nat.le_refl _) o))
  have HB := Lib.hid hb'
  have hfl : begP s p ≤ (p - 1).toNat := floor_le s (p - 1).toNat
  clear hb hb' hi
  have t1 : decide (p < 1) = false := decide_eq_false (by omega)
  have t2 : decide ((s.size : Int) < p) = false := decide_eq_false (by omega)
  go_enter Tryd.func20, Tryd.ntmps20
  go_wp2_with (go_at_call 36; refine (refInside_calls A c s p _ (HB.out _) (by omega) (by omega)).mono ?_; rw [HI.out]; rintro e w' ⟨rfl, rfl⟩)
  go_loop [6] (fun i => ∃ q : Int, (begP s p : Int) ≤ q ∧ q ≤ p - 1 ∧ i = .int .i64 q) (fun i => (intOf i).toNat)
  case atStart => exact ⟨p - 1, by omega, by omega, rfl⟩
  case round =>
    obtain ⟨q, hq1, hq2, rfl⟩ := hrel
    by_cases he : (begP s p : Int) = q
    · have HE : Hid (q.toNat = begP s p) := by show _ = _; omega
      have HI2 : Hid (insB s q = false) := insB_eq s q false (by rw [← he, Int.toNat_natCast]; unfold begP; simp [ins_floor])
      clear he
      go_wp2_with (first
        | (go_at_call 36; refine (refInside_calls A c s q _ (HB.out _) (by omega) (by omega)).mono ?_; rw [HI2.out]; rintro e w' ⟨rfl, rfl⟩)
        | (go_at_call 37; refine (refOf_calls A c s q _ (HB.out _) (by omega) (by omega)).mono ?_; rw [HE.out]; rintro e w2 ⟨rfl, hb3⟩; obtain ⟨n1, n2, n3⟩ := new3 hb3; obtain ⟨⟨m1, m2, m3⟩, f1, f2, f3⟩ := cell_of3 n1; clear hb3 n1))
      refine bodyPost_ret (v := .tuple #[.agg #[.int .i32 (rune s (begP s p)), .int .i64 (width s (begP s p)), .bool (whole s (begP s p))], .int .i64 0]) (by simp [results, Tryd.results20, go_sem, m1, m2, m3]) rfl ⟨rfl, ?_⟩
      exact ((n3.setCell (Nat.le_refl _) _).setCell (Nat.le_refl _) _).setCell (Nat.le_refl _) _
    · have HI2 : Hid (insB s q = true) := insB_eq s q true (by simp [ins_down s (p - 1).toNat q.toNat (by unfold begP at hq1 he; omega) (by omega)])
      have hq3 : (begP s p : Int) < q := by omega
      clear he
      go_wp2_with (go_at_call 36; refine (refInside_calls A c s q _ (HB.out _) (by omega) (by omega)).mono ?_; rw [HI2.out]; rintro e w' ⟨rfl, rfl⟩)
      go_round
      case rel => exact ⟨q - 1, by omega, by omega, rfl⟩
      case measure => simp [intOf]; omega

theorem below_eq {w w' : World} (h : w = w') : Below w.heap.size w w' := h ▸ Below.refl _ _

theorem At_both (s : ByteArray) (p : Int) : ∃ (r wd : Int) (wh : Bool) (n : Int), 0 ≤ n ∧ n ≤ 4 ∧
    (∀ A c w, BadLies w → Byt w A c s → Calls Tryd.prog 17 #[.slice A s.size c, .int .i64 p] w fun e w' => e = .returned (.tuple #[.agg #[.int .i32 r, .int .i64 wd, .bool wh], .int .i64 n]) ∧ Below w.heap.size w w') ∧
    (∀ A c w, Byt w A c s → Calls Tryd.prog 18 #[.slice A s.size c, .int .i64 p] w fun e w' => e = .returned (.tuple #[.agg #[.int .i32 r, .int .i64 wd, .bool wh], .int .i64 n]) ∧ Below w.heap.size w w') := by
  by_cases h : p < 0 ∨ s.size ≤ p
  · exact ⟨_, _, _, _, by decide, by decide, fun A c w _ _ => At_out A c s p w h, fun A c w _ => refAt_out A c s p w h⟩
  · by_cases hi : insK s p.toNat = 0
    · exact ⟨_, _, _, _, by decide, by decide, fun A c w hg hb => At_ok A c s p w hg hb (by omega) (by omega) hi, fun A c w hb => refAt_ok A c s p w hb (by omega) (by omega) hi⟩
    · exact ⟨_, _, _, _, by decide, by decide, fun A c w hg hb => At_ins A c s p w hg hb (by omega) (by omega) hi, fun A c w hb => refAt_ins A c s p w hb (by omega) (by omega) hi⟩
theorem ins_size (s : ByteArray) (p : Nat) (h : s.size ≤ p) : insK s p = 0 := by
  refine Decidable.byContradiction fun h2 => ?_
  have := ins_lt s p ((ins_iff s p).2 h2); omega
theorem Before_both (s : ByteArray) (p : Int) : ∃ (r wd : Int) (wh : Bool) (n : Int), 0 ≤ n ∧ n ≤ 4 ∧
    (∀ A c w, BadLies w → Byt w A c s → Calls Tryd.prog 19 #[.slice A s.size c, .int .i64 p] w fun e w' => e = .returned (.tuple #[.agg #[.int .i32 r, .int .i64 wd, .bool wh], .int .i64 n]) ∧ Below w.heap.size w w') ∧
    (∀ A c w, Byt w A c s → Calls Tryd.prog 20 #[.slice A s.size c, .int .i64 p] w fun e w' => e = .returned (.tuple #[.agg #[.int .i32 r, .int .i64 wd, .bool wh], .int .i64 n]) ∧ Below w.heap.size w w') := by
  by_cases h : p < 1 ∨ s.size < p
  · exact ⟨_, _, _, _, by decide, by decide, fun A c w _ _ => Before_out A c s p w h, fun A c w _ => refBefore_out A c s p w h⟩
  · by_cases hi : insK s p.toNat = 0
    · by_cases he : p = s.size
      · exact ⟨_, _, _, _, by decide, by decide, fun A c w hg hb => Before_end A c s p w hg hb (by omega) he, fun A c w hb => refBefore_ok A c s p w hb (by omega) (by omega) hi⟩
      · exact ⟨_, _, _, _, by decide, by decide, fun A c w hg hb => Before_mid A c s p w hg hb (by omega) (by omega) hi, fun A c w hb => refBefore_ok A c s p w hb (by omega) (by omega) hi⟩
    · have : ¬ (s.size : Int) ≤ p := fun h2 => hi (ins_size s _ (by omega))
      exact ⟨_, _, _, _, by decide, by decide, fun A c w hg hb => Before_ins A c s p w hg hb (by omega) (by omega) hi, fun A c w hb => refBefore_ins A c s p w hb (by omega) (by omega) hi⟩
theorem Floor_both (s : ByteArray) (p : Int) : ∃ q n : Int, 0 ≤ n ∧ n ≤ 4 ∧
    (∀ A c w, BadLies w → Byt w A c s → Calls Tryd.prog 22 #[.slice A s.size c, .int .i64 p] w fun e w' => e = .returned (.tuple #[.int .i64 q, .int .i64 n]) ∧ Below w.heap.size w w') ∧
    (∀ A c w, Byt w A c s → Calls Tryd.prog 23 #[.slice A s.size c, .int .i64 p] w fun e w' => e = .returned (.tuple #[.int .i64 q, .int .i64 n]) ∧ w = w') := by
  by_cases h : p < 0 ∨ s.size < p
  · exact ⟨_, _, by decide, by decide, fun A c w _ _ => (floor_out A c s p w h).mono fun e w' hw => ⟨hw.1, below_eq hw.2⟩, fun A c w _ => refFloor_out A c s p w h⟩
  · exact ⟨_, _, by decide, by decide, fun A c w hg hb => floor_in A c s p w hg hb (by omega) (by omega), fun A c w hb => refFloor_in A c s p w hb (by omega) (by omega)⟩
theorem Ceil_both (s : ByteArray) (p : Int) : ∃ q n : Int, 0 ≤ n ∧ n ≤ 4 ∧
    (∀ A c w, BadLies w → Byt w A c s → Calls Tryd.prog 24 #[.slice A s.size c, .int .i64 p] w fun e w' => e = .returned (.tuple #[.int .i64 q, .int .i64 n]) ∧ Below w.heap.size w w') ∧
    (∀ A c w, Byt w A c s → Calls Tryd.prog 25 #[.slice A s.size c, .int .i64 p] w fun e w' => e = .returned (.tuple #[.int .i64 q, .int .i64 n]) ∧ w = w') := by
  by_cases h : p < 0 ∨ s.size < p
  · exact ⟨_, _, by decide, by decide, fun A c w _ _ => (ceil_out A c s p w h).mono fun e w' hw => ⟨hw.1, below_eq hw.2⟩, fun A c w _ => refCeil_out A c s p w h⟩
  · exact ⟨_, _, by decide, by decide, fun A c w hg hb => ceil_in A c s p w hg hb (by omega) (by omega), fun A c w hb => refCeil_in A c s p w hb (by omega) (by omega)⟩
end Go.Proofs.YtcnbfpmognijcaaDoor
