/- Contracts of step.At and step.Before. -/
import Derived.Test.YtcnbfpmognijcaaDoorStep
namespace Go.Proofs.YtcnbfpmognijcaaDoor
open Go.RowKit Galley Go.Proofs.YtcnbfpmognijcaaDoorW.PrintWords
attribute [local go_sem ↓] field0 field1 field2

theorem keep_blk {w w' : World} {k : Nat} {o : Obj} (h : w.heap[k]? = some o) (hb : Below w.heap.size w w') : w'.heap[k]? = some o :=
  (hb.block k (Array.getElem?_eq_some_iff.1 h).1).trans h

set_option maxHeartbeats 400000 in
theorem At_out (A : Option Addr) (c : Nat) (s : ByteArray) (p : Int) (w : World) (h : p < 0 ∨ s.size ≤ p) :
    Calls Tryd.prog 17 #[.slice A s.size c, .int .i64 p] w fun e w' => e = .returned (.tuple #[.agg #[.int .i32 0, .int .i64 0, .bool false], .int .i64 2]) ∧ Below w.heap.size w w' := by
  rcases h with h | h
  · go_enter Tryd.func17, Tryd.ntmps17
    go_wp2_with fail
    refine bodyPost_ret (v := .tuple #[.agg #[.int .i32 0, .int .i64 0, .bool false], .int .i64 2]) (by simp [results, Tryd.results17, go_sem]) rfl ⟨rfl, ?_⟩
    exact (Below.refl _ _).alloc (Nat.le_refl _) _
  · have h2 : ¬ p < 0 := by omega
    go_enter Tryd.func17, Tryd.ntmps17
    go_wp2_with fail
    refine bodyPost_ret (v := .tuple #[.agg #[.int .i32 0, .int .i64 0, .bool false], .int .i64 2]) (by simp [results, Tryd.results17, go_sem]) rfl ⟨rfl, ?_⟩
    exact (Below.refl _ _).alloc (Nat.le_refl _) _

set_option maxHeartbeats 400000 in
theorem At_ins (A : Option Addr) (c : Nat) (s : ByteArray) (p : Int) (w : World) (hg : BadLies w) (hb : Byt w A c s) (h0 : 0 ≤ p) (hp : p < s.size) (hi : insK s p.toNat ≠ 0) :
    Calls Tryd.prog 17 #[.slice A s.size c, .int .i64 p] w fun e w' => e = .returned (.tuple #[.agg #[.int .i32 0, .int .i64 0, .bool false], .int .i64 4]) ∧ Below w.heap.size w w' := by
  have hlt := hg.lt
  have hi' : 0 < insK s p.toNat := by omega
  have hg' := fun o => hg.below (((Below.refl _ w).alloc (Nat.le_refl _) o)) hlt
  have HG := Lib.hid hg'
  have hb' := fun o => hb.below (((Below.refl _ w).alloc (Nat.le_refl _) o))
  have HB := Lib.hid hb'
  clear hg hb hg' hb' hi
  go_enter Tryd.func17, Tryd.ntmps17
  go_wp2_with (go_at_call 34; refine (inside_calls A c s p _ (HG.out _) (HB.out _) h0 (by omega)).mono ?_; rintro e w' ⟨rfl, hb1⟩; generalize insK s p.toNat = k at hi' ⊢; obtain ⟨n1, n2, n3⟩ := new3 hb1; obtain ⟨⟨m1, m2, m3⟩, f1, f2, f3⟩ := cell_of3 n1; clear hb1 n1)
  refine bodyPost_ret (v := .tuple #[.agg #[.int .i32 0, .int .i64 0, .bool false], .int .i64 4]) (by simp [results, Tryd.results17, go_sem, m1, m2, m3]) rfl ⟨rfl, ?_⟩
  exact ((n3.setCell (Nat.le_refl _) _).setCell (Nat.le_refl _) _).setCell (Nat.le_refl _) _

set_option maxHeartbeats 400000 in
theorem At_ok (A : Option Addr) (c : Nat) (s : ByteArray) (p : Int) (w : World) (hg : BadLies w) (hb : Byt w A c s) (h0 : 0 ≤ p) (hp : p < s.size) (hi : insK s p.toNat = 0) :
    Calls Tryd.prog 17 #[.slice A s.size c, .int .i64 p] w fun e w' => e = .returned (.tuple #[.agg #[.int .i32 (rune s p.toNat), .int .i64 (width s p.toNat), .bool (whole s p.toNat)], .int .i64 0]) ∧ Below w.heap.size w w' := by
  have hlt := hg.lt
  have HI := Lib.hid hi
  have hg' := fun o => hg.below (((Below.refl _ w).alloc (Nat.le_refl _) o)) hlt
  have HG := Lib.hid hg'
  have hb' := fun o => hb.below (((Below.refl _ w).alloc (Nat.le_refl _) o))
  have HB := Lib.hid hb'
  clear hg hb hg' hb' hi
  go_enter Tryd.func17, Tryd.ntmps17
  go_wp2_with (first | (go_at_call 34; refine (inside_calls A c s p _ (HG.out _) (HB.out _) h0 (by omega)).mono ?_; rw [HI.out]; rintro e w' ⟨rfl, hb1⟩) | (go_at_call 35; refine (at_calls A c s p _ ((HG.out _).below hb1 (by rw [World.size_alloc]; omega)) ((HB.out _).below hb1) h0 hp).mono ?_; rintro e w2 ⟨rfl, hb2⟩; have hb3 := hb1.trans (hb2.mono hb1.size); clear hb1 hb2; obtain ⟨n1, n2, n3⟩ := new3 hb3; obtain ⟨⟨m1, m2, m3⟩, f1, f2, f3⟩ := cell_of3 n1; clear hb3 n1))
  refine bodyPost_ret (v := .tuple #[.agg #[.int .i32 (rune s p.toNat), .int .i64 (width s p.toNat), .bool (whole s p.toNat)], .int .i64 0]) (by simp [results, Tryd.results17, go_sem, m1, m2, m3]) rfl ⟨rfl, ?_⟩
  exact ((n3.setCell (Nat.le_refl _) _).setCell (Nat.le_refl _) _).setCell (Nat.le_refl _) _

set_option maxHeartbeats 400000 in
theorem Before_out (A : Option Addr) (c : Nat) (s : ByteArray) (p : Int) (w : World) (h : p < 1 ∨ s.size < p) :
    Calls Tryd.prog 19 #[.slice A s.size c, .int .i64 p] w fun e w' => e = .returned (.tuple #[.agg #[.int .i32 0, .int .i64 0, .bool false], .int .i64 2]) ∧ Below w.heap.size w w' := by
  rcases h with h | h
  · go_enter Tryd.func19, Tryd.ntmps19
    go_wp2_with fail
    refine bodyPost_ret (v := .tuple #[.agg #[.int .i32 0, .int .i64 0, .bool false], .int .i64 2]) (by simp [results, Tryd.results19, go_sem]) rfl ⟨rfl, ?_⟩
    exact (Below.refl _ _).alloc (Nat.le_refl _) _
  · have h2 : ¬ p < 1 := by omega
    go_enter Tryd.func19, Tryd.ntmps19
    go_wp2_with fail
    refine bodyPost_ret (v := .tuple #[.agg #[.int .i32 0, .int .i64 0, .bool false], .int .i64 2]) (by simp [results, Tryd.results19, go_sem]) rfl ⟨rfl, ?_⟩
    exact (Below.refl _ _).alloc (Nat.le_refl _) _

set_option maxHeartbeats 400000 in
theorem Before_ins (A : Option Addr) (c : Nat) (s : ByteArray) (p : Int) (w : World) (hg : BadLies w) (hb : Byt w A c s) (h0 : 1 ≤ p) (hp : p < s.size) (hi : insK s p.toNat ≠ 0) :
    Calls Tryd.prog 19 #[.slice A s.size c, .int .i64 p] w fun e w' => e = .returned (.tuple #[.agg #[.int .i32 0, .int .i64 0, .bool false], .int .i64 4]) ∧ Below w.heap.size w w' := by
  have hlt := hg.lt
  have hi' : 0 < insK s p.toNat := by omega
  have hg' := fun o => hg.below (((Below.refl _ w).alloc (Nat.le_refl _) o)) hlt
  have HG := Lib.hid hg'
  have hb' := fun o => hb.below (((Below.refl _ w).alloc (Nat.le_refl _) o))
  have HB := Lib.hid hb'
  clear hg hb hg' hb' hi
  go_enter Tryd.func19, Tryd.ntmps19
  go_wp2_with (go_at_call 34; refine (inside_calls A c s p _ (HG.out _) (HB.out _) (by omega) (by omega)).mono ?_; rintro e w' ⟨rfl, hb1⟩; generalize insK s p.toNat = k at hi' ⊢; obtain ⟨n1, n2, n3⟩ := new3 hb1; obtain ⟨⟨m1, m2, m3⟩, f1, f2, f3⟩ := cell_of3 n1; clear hb1 n1)
  refine bodyPost_ret (v := .tuple #[.agg #[.int .i32 0, .int .i64 0, .bool false], .int .i64 4]) (by simp [results, Tryd.results19, go_sem, m1, m2, m3]) rfl ⟨rfl, ?_⟩
  exact ((n3.setCell (Nat.le_refl _) _).setCell (Nat.le_refl _) _).setCell (Nat.le_refl _) _

/-- the place at which the step begins that ends at p -/
def begP (s : ByteArray) (p : Int) : Nat := floorP s (p - 1).toNat
theorem begP_lt (s : ByteArray) (p : Int) (h0 : 1 ≤ p) (hp : p ≤ s.size) : (begP s p : Int) < p ∧ (begP s p : Int) < s.size := by
  have := floor_le s (p - 1).toNat
  unfold begP; omega
set_option maxHeartbeats 400000 in
theorem Before_end (A : Option Addr) (c : Nat) (s : ByteArray) (p : Int) (w : World) (hg : BadLies w) (hb : Byt w A c s) (h0 : 1 ≤ p) (hp : p = s.size) :
    Calls Tryd.prog 19 #[.slice A s.size c, .int .i64 p] w fun e w' => e = .returned (.tuple #[.agg #[.int .i32 (rune s (begP s p)), .int .i64 (width s (begP s p)), .bool (whole s (begP s p))], .int .i64 0]) ∧ Below w.heap.size w w' := by
  have hlt := hg.lt
  have hmax := hb.small
  have hp1 : ¬ p < s.size := by omega
  have hp2 : p ≤ s.size := by omega
  have hq := (begP_lt s p h0 hp2).2
  have hg' := fun o => hg.below (((Below.refl _ w).alloc (Nat.le_refl _) o)) hlt
  have HG := Lib.hid hg'
  have hb' := fun o => hb.below (((Below.refl _ w).alloc (Nat.le_refl _) o))
  have HB := Lib.hid hb'
  have HQ : Hid (floorP s (p - 1).toNat = begP s p) := rfl
  clear hg hb hg' hb' hp
  go_enter Tryd.func19, Tryd.ntmps19
  go_wp2_with (first | (go_at_call 22; refine (floor_in A c s (p - 1) _ (HG.out _) (HB.out _) (by omega) (by omega)).mono ?_; rw [HQ.out]; rintro e w' ⟨rfl, hb1⟩) | (go_at_call 35; refine (at_calls A c s (begP s p) _ ((HG.out _).below hb1 (by rw [World.size_alloc]; omega)) ((HB.out _).below hb1) (by omega) hq).mono ?_; rw [Int.toNat_natCast]; rintro e w2 ⟨rfl, hb2⟩; have hb3 := hb1.trans (hb2.mono hb1.size); clear hb1 hb2; obtain ⟨n1, n2, n3⟩ := new3 hb3; obtain ⟨⟨m1, m2, m3⟩, f1, f2, f3⟩ := cell_of3 n1; clear hb3 n1))
  refine bodyPost_ret (v := .tuple #[.agg #[.int .i32 (rune s (begP s p)), .int .i64 (width s (begP s p)), .bool (whole s (begP s p))], .int .i64 0]) (by simp [results, Tryd.results19, go_sem, m1, m2, m3]) rfl ⟨rfl, ?_⟩
  exact ((n3.setCell (Nat.le_refl _) _).setCell (Nat.le_refl _) _).setCell (Nat.le_refl _) _

set_option maxHeartbeats 400000 in
theorem Before_mid (A : Option Addr) (c : Nat) (s : ByteArray) (p : Int) (w : World) (hg : BadLies w) (hb : Byt w A c s) (h0 : 1 ≤ p) (hp : p < s.size) (hi : insK s p.toNat = 0) :
    Calls Tryd.prog 19 #[.slice A s.size c, .int .i64 p] w fun e w' => e = .returned (.tuple #[.agg #[.int .i32 (rune s (begP s p)), .int .i64 (width s (begP s p)), .bool (whole s (begP s p))], .int .i64 0]) ∧ Below w.heap.size w w' := by
  have hlt := hg.lt
  have hmax := hb.small
  have hp2 : p ≤ s.size := by omega
  have hq := (begP_lt s p h0 hp2).2
  have HI := Lib.hid hi
  have hg' := fun o => hg.below (((Below.refl _ w).alloc (Nat.le_refl _) o)) hlt
  have HG := Lib.hid hg'
  have hb' := fun o => hb.below (((Below.refl _ w).alloc (Nat.le_refl _) o))
  have HB := Lib.hid hb'
  have HQ : Hid (floorP s (p - 1).toNat = begP s p) := rfl
  clear hg hb hg' hb' hi
  go_enter Tryd.func19, Tryd.ntmps19
  go_wp2_with (first | (go_at_call 34; refine (inside_calls A c s p _ (HG.out _) (HB.out _) (by omega) (by omega)).mono ?_; rw [HI.out]; rintro e w0 ⟨rfl, hb0⟩) | (go_at_call 22; refine (floor_in A c s (p - 1) _ ((HG.out _).below hb0 (by rw [World.size_alloc]; omega)) ((HB.out _).below hb0) (by omega) (by omega)).mono ?_; rw [HQ.out]; rintro e w' ⟨rfl, hb1'⟩; have hb1 := hb0.trans (hb1'.mono hb0.size); clear hb0 hb1') | (go_at_call 35; refine (at_calls A c s (begP s p) _ ((HG.out _).below hb1 (by rw [World.size_alloc]; omega)) ((HB.out _).below hb1) (by omega) hq).mono ?_; rw [Int.toNat_natCast]; rintro e w2 ⟨rfl, hb2⟩; have hb3 := hb1.trans (hb2.mono hb1.size); clear hb1 hb2; obtain ⟨n1, n2, n3⟩ := new3 hb3; obtain ⟨⟨m1, m2, m3⟩, f1, f2, f3⟩ := cell_of3 n1; clear hb3 n1))
  refine bodyPost_ret (v := .tuple #[.agg #[.int .i32 (rune s (begP s p)), .int .i64 (width s (begP s p)), .bool (whole s (begP s p))], .int .i64 0]) (by simp [results, Tryd.results19, go_sem, m1, m2, m3]) rfl ⟨rfl, ?_⟩
  exact ((n3.setCell (Nat.le_refl _) _).setCell (Nat.le_refl _) _).setCell (Nat.le_refl _) _
end Go.Proofs.YtcnbfpmognijcaaDoor
