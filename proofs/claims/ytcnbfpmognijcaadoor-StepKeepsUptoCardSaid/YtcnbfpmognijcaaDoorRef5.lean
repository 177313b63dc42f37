/- Contracts of the reference's At, Before, Floor, Ceil. -/
import Derived.Test.YtcnbfpmognijcaaDoorRef4
namespace Go.Proofs.YtcnbfpmognijcaaDoor
open Go.RowKit Galley Go.Proofs.YtcnbfpmognijcaaDoorW.PrintWords

theorem refOf_calls (A : Option Addr) (c : Nat) (s : ByteArray) (p : Int) (w : World) (hb : Byt w A c s) (h0 : 0 ≤ p) (hp : p < s.size) :
    Calls Tryd.prog 37 #[.slice A s.size c, .int .i64 p] w fun e w' => e = .returned (.agg #[.int .i32 (rune s p.toNat), .int .i64 (width s p.toNat), .bool (whole s p.toNat)]) ∧ Below w.heap.size w w' := by
  have := hb.small
  by_cases hl : long s p.toNat = 0
  · exact refOf_none A c s p w hb h0 (by omega) hl
  · exact refOf_some A c s p w hb h0 hp hl

theorem ins_down (s : ByteArray) (P q : Nat) (h1 : floorP s P < q) (h2 : q ≤ P) : insK s q ≠ 0 := by
  have hi : Ins s P := by
    refine Decidable.byContradiction fun h => ?_
    have := floor_self s P h; omega
  exact (ins_iff s q).1 (floor_between s P q h1 h2 hi)
theorem ins_floor (s : ByteArray) (P : Nat) : insK s (floorP s P) = 0 := by
  refine Decidable.byContradiction fun h => ?_
  exact floor_edge s P ((ins_iff s _).2 h)
theorem ins_up (s : ByteArray) (P q : Nat) (h1 : P ≤ q) (h2 : q < ceilP s P) : insK s q ≠ 0 := by
  have hi : Ins s P := by
    refine Decidable.byContradiction fun h => ?_
    have := ceil_self s P h; omega
  exact (ins_iff s q).1 ((ceil_ins s P hi).2.2.2.2 q h1 h2)
theorem ins_ceil (s : ByteArray) (P : Nat) : insK s (ceilP s P) = 0 := by
  by_cases hi : Ins s P
  · refine Decidable.byContradiction fun h => ?_
    exact (ceil_ins s P hi).2.2.2.1 ((ins_iff s _).2 h)
  · rw [ceil_self s P hi]
    refine Decidable.byContradiction fun h => ?_
    exact hi ((ins_iff s _).2 h)
theorem ceil_le (s : ByteArray) (P : Nat) (h : P ≤ s.size) : P ≤ ceilP s P ∧ ceilP s P ≤ s.size := by
  by_cases hi : Ins s P
  · have := ceil_ins s P hi; omega
  · rw [ceil_self s P hi]; omega
theorem insB_eq (s : ByteArray) (p : Int) (b : Bool) (h : (insK s p.toNat ≠ 0) = (b = true)) : insB s p = b := by
  unfold insB
  rw [Bool.eq_iff_iff, decide_eq_true_eq, h]

set_option maxHeartbeats 400000 in
theorem refAt_out (A : Option Addr) (c : Nat) (s : ByteArray) (p : Int) (w : World) (h : p < 0 ∨ s.size ≤ p) :
    Calls Tryd.prog 18 #[.slice A s.size c, .int .i64 p] w fun e w' => e = .returned (.tuple #[.agg #[.int .i32 0, .int .i64 0, .bool false], .int .i64 2]) ∧ Below w.heap.size w w' := by
  rcases h with h | h
  · go_enter Tryd.func18, Tryd.ntmps18
    go_wp2_with fail
    refine bodyPost_ret (v := .tuple #[.agg #[.int .i32 0, .int .i64 0, .bool false], .int .i64 2]) (by simp [results, Tryd.results18, go_sem]) rfl ⟨rfl, ?_⟩
    exact (Below.refl _ _).alloc (Nat.le_refl _) _
  · have h2 : ¬ p < 0 := by omega
    go_enter Tryd.func18, Tryd.ntmps18
    go_wp2_with fail
    refine bodyPost_ret (v := .tuple #[.agg #[.int .i32 0, .int .i64 0, .bool false], .int .i64 2]) (by simp [results, Tryd.results18, go_sem]) rfl ⟨rfl, ?_⟩
    exact (Below.refl _ _).alloc (Nat.le_refl _) _

set_option maxHeartbeats 400000 in
theorem refAt_ins (A : Option Addr) (c : Nat) (s : ByteArray) (p : Int) (w : World) (hb : Byt w A c s) (h0 : 0 ≤ p) (hp : p < s.size) (hi : insK s p.toNat ≠ 0) :
    Calls Tryd.prog 18 #[.slice A s.size c, .int .i64 p] w fun e w' => e = .returned (.tuple #[.agg #[.int .i32 0, .int .i64 0, .bool false], .int .i64 4]) ∧ Below w.heap.size w w' := by
  have hmax := hb.small
  have HI := Lib.hid (insB_eq s p true (by simp [hi]))
  have hb' := fun o => hb.below (((Below.refl _ w).alloc (Nat.le_refl _) o))
  have HB := Lib.hid hb'
  clear hb hb' hi
  have t1 : decide (p < 0) = false := decide_eq_false (by omega)
  have t2 : decide ((s.size : Int) ≤ p) = false := decide_eq_false (by omega)
  go_enter Tryd.func18, Tryd.ntmps18
  go_wp2_with (go_at_call 36; refine (refInside_calls A c s p _ (HB.out _) h0 (by omega)).mono ?_; rw [HI.out]; rintro e w' ⟨rfl, rfl⟩)
  refine bodyPost_ret (v := .tuple #[.agg #[.int .i32 0, .int .i64 0, .bool false], .int .i64 4]) (by simp [results, Tryd.results18, go_sem]) rfl ⟨rfl, ?_⟩
  exact (Below.refl _ _).alloc (Nat.le_refl _) _

set_option maxHeartbeats 400000 in
theorem refAt_ok (A : Option Addr) (c : Nat) (s : ByteArray) (p : Int) (w : World) (hb : Byt w A c s) (h0 : 0 ≤ p) (hp : p < s.size) (hi : insK s p.toNat = 0) :
    Calls Tryd.prog 18 #[.slice A s.size c, .int .i64 p] w fun e w' => e = .returned (.tuple #[.agg #[.int .i32 (rune s p.toNat), .int .i64 (width s p.toNat), .bool (whole s p.toNat)], .int .i64 0]) ∧ Below w.heap.size w w' := by
  have hmax := hb.small
  have HI := Lib.hid (insB_eq s p false (by simp [hi]))
  have hb' := fun o => hb.below (((Below.refl _ w).alloc (Nat.le_refl _) o))
  have HB := Lib.hid hb'
  clear hb hb' hi
  have t1 : decide (p < 0) = false := decide_eq_false (by omega)
  have t2 : decide ((s.size : Int) ≤ p) = false := decide_eq_false (by omega)
  go_enter Tryd.func18, Tryd.ntmps18
  go_wp2_with (first | (go_at_call 36; refine (refInside_calls A c s p _ (HB.out _) h0 (by omega)).mono ?_; rw [HI.out]; rintro e w' ⟨rfl, rfl⟩) | (go_at_call 37; refine (refOf_calls A c s p _ (HB.out _) h0 hp).mono ?_; rintro e w2 ⟨rfl, hb3⟩; obtain ⟨n1, n2, n3⟩ := new3 hb3; obtain ⟨⟨m1, m2, m3⟩, f1, f2, f3⟩ := cell_of3 n1; clear hb3 n1))
  refine bodyPost_ret (v := .tuple #[.agg #[.int .i32 (rune s p.toNat), .int .i64 (width s p.toNat), .bool (whole s p.toNat)], .int .i64 0]) (by simp [results, Tryd.results18, go_sem, m1, m2, m3]) rfl ⟨rfl, ?_⟩
  exact ((n3.setCell (Nat.le_refl _) _).setCell (Nat.le_refl _) _).setCell (Nat.le_refl _) _

set_option maxHeartbeats 400000 in
theorem refFloor_out (A : Option Addr) (c : Nat) (s : ByteArray) (p : Int) (w : World) (h : p < 0 ∨ s.size < p) :
    Calls Tryd.prog 23 #[.slice A s.size c, .int .i64 p] w fun e w' => e = .returned (.tuple #[.int .i64 0, .int .i64 2]) ∧ w = w' := by
  rcases h with h | h
  · go_enter Tryd.func23, Tryd.ntmps23
    go_wp2_with fail
    go_ret2
    exact ⟨rfl, rfl⟩
  · have h2 : ¬ p < 0 := by omega
    go_enter Tryd.func23, Tryd.ntmps23
    go_wp2_with fail
    go_ret2
    exact ⟨rfl, rfl⟩
set_option maxHeartbeats 400000 in
theorem refCeil_out (A : Option Addr) (c : Nat) (s : ByteArray) (p : Int) (w : World) (h : p < 0 ∨ s.size < p) :
    Calls Tryd.prog 25 #[.slice A s.size c, .int .i64 p] w fun e w' => e = .returned (.tuple #[.int .i64 0, .int .i64 2]) ∧ w = w' := by
  rcases h with h | h
  · go_enter Tryd.func25, Tryd.ntmps25
    go_wp2_with fail
    go_ret2
    exact ⟨rfl, rfl⟩
  · have h2 : ¬ p < 0 := by omega
    go_enter Tryd.func25, Tryd.ntmps25
    go_wp2_with fail
    go_ret2
    exact ⟨rfl, rfl⟩
set_option maxHeartbeats 400000 in
theorem refFloor_in (A : Option Addr) (c : Nat) (s : ByteArray) (p : Int) (w : World) (hb : Byt w A c s) (h0 : 0 ≤ p) (hp : p ≤ s.size) :
    Calls Tryd.prog 23 #[.slice A s.size c, .int .i64 p] w fun e w' => e = .returned (.tuple #[.int .i64 (floorP s p.toNat), .int .i64 0]) ∧ w = w' := by
  have hmax := hb.small
  have hfl := floor_le s p.toNat
  have HB := Lib.hid hb
  clear hb
  have t1 : decide (p < 0) = false := decide_eq_false (by omega)
  have t2 : decide ((s.size : Int) < p) = false := decide_eq_false (by omega)
  go_enter Tryd.func23, Tryd.ntmps23
  go_wp2_with fail
  go_loop [1] (fun i => ∃ q : Int, (floorP s p.toNat : Int) ≤ q ∧ q ≤ p ∧ i = .int .i64 q) (fun i => (intOf i).toNat)
  case atStart => exact ⟨p, by omega, by omega, rfl⟩
  case round =>
    obtain ⟨q, hq1, hq2, rfl⟩ := hrel
    by_cases he : (floorP s p.toNat : Int) = q
    · have HE := Lib.hid he
      have HI : Hid (insB s q = false) := insB_eq s q false (by rw [← he, Int.toNat_natCast]; simp [ins_floor])
      clear he
      go_wp2_with (go_at_call 36; refine (refInside_calls A c s q _ HB.out (by omega) (by omega)).mono ?_; rw [HI.out]; rintro e w' ⟨rfl, rfl⟩)
      go_ret2
      exact ⟨by rw [HE.out]; rfl, rfl⟩
    · have HI : Hid (insB s q = true) := insB_eq s q true (by simp [ins_down s p.toNat q.toNat (by omega) (by omega)])
      have hq3 : (floorP s p.toNat : Int) < q := by omega
      clear he
      go_wp2_with (go_at_call 36; refine (refInside_calls A c s q _ HB.out (by omega) (by omega)).mono ?_; rw [HI.out]; rintro e w' ⟨rfl, rfl⟩)
      go_round
      case rel => exact ⟨q - 1, by omega, by omega, rfl⟩
      case measure => simp [intOf]; omega
set_option maxHeartbeats 400000 in
theorem refCeil_in (A : Option Addr) (c : Nat) (s : ByteArray) (p : Int) (w : World) (hb : Byt w A c s) (h0 : 0 ≤ p) (hp : p ≤ s.size) :
    Calls Tryd.prog 25 #[.slice A s.size c, .int .i64 p] w fun e w' => e = .returned (.tuple #[.int .i64 (ceilP s p.toNat), .int .i64 0]) ∧ w = w' := by
  have hmax := hb.small
  obtain ⟨hc1, hc2⟩ := ceil_le s p.toNat (by omega)
  have HB := Lib.hid hb
  clear hb
  have t1 : decide (p < 0) = false := decide_eq_false (by omega)
  have t2 : decide ((s.size : Int) < p) = false := decide_eq_false (by omega)
  go_enter Tryd.func25, Tryd.ntmps25
  go_wp2_with fail
  go_loop [1] (fun i => ∃ q : Int, q ≤ (ceilP s p.toNat : Int) ∧ p ≤ q ∧ i = .int .i64 q) (fun i => s.size - (intOf i).toNat)
  case atStart => exact ⟨p, by omega, by omega, rfl⟩
  case round =>
    obtain ⟨q, hq1, hq2, rfl⟩ := hrel
    by_cases he : (ceilP s p.toNat : Int) = q
    · have HE := Lib.hid he
      have HI : Hid (insB s q = false) := insB_eq s q false (by rw [← he, Int.toNat_natCast]; simp [ins_ceil])
      clear he
      go_wp2_with (go_at_call 36; refine (refInside_calls A c s q _ HB.out (by omega) (by omega)).mono ?_; rw [HI.out]; rintro e w' ⟨rfl, rfl⟩)
      go_ret2
      exact ⟨by rw [HE.out]; rfl, rfl⟩
    · have HI : Hid (insB s q = true) := insB_eq s q true (by simp [ins_up s p.toNat q.toNat (by omega) (by omega)])
      have hq3 : q < (ceilP s p.toNat : Int) := by omega
      clear he
      go_wp2_with (go_at_call 36; refine (refInside_calls A c s q _ HB.out (by omega) (by omega)).mono ?_; rw [HI.out]; rintro e w' ⟨rfl, rfl⟩)
      go_round
      case rel => exact ⟨q + 1, by omega, by omega, rfl⟩
      case measure => simp [intOf]; omega
end Go.Proofs.YtcnbfpmognijcaaDoor
