/- Contracts of step.inside, Floor, Edge, At, Before, Ceil. -/
import Derived.Test.YtcnbfpmognijcaaDoorByt
import Derived.Test.YtcnbfpmognijcaaDoorPure3
import Derived.Deep.LoopGhost
namespace Go.Proofs.YtcnbfpmognijcaaDoor
open Go.RowKit Galley Go.Proofs.YtcnbfpmognijcaaDoorW.PrintWords

attribute [local go_sem ↓] field0 field1 field2

/-- behind k rounds of the search no encoding was found -/
def Sought (s : ByteArray) (p k : Nat) : Prop := ∀ j, 1 ≤ j → j < k → width s (p - j) ≤ j

set_option maxHeartbeats 400000 in
theorem inside_calls (A : Option Addr) (c : Nat) (s : ByteArray) (p : Int) (w : World) (hg : BadLies w) (hb : Byt w A c s) (h0 : 0 ≤ p) (hp : p ≤ s.size) :
    Calls Tryd.prog 34 #[.slice A s.size c, .int .i64 p] w fun e w' => e = .returned (.int .i64 (insK s p.toNat)) ∧ Below w.heap.size w w' := by
  have hmax := hb.small
  have hlt := hg.lt
  have HG := Lib.hid hg
  have HB := Lib.hid hb
  clear hg hb
  go_enter Tryd.func34, Tryd.ntmps34
  go_wp2_with fail
  go_loopw [5] (fun i wr => ∃ k : Nat, 1 ≤ k ∧ k ≤ 4 ∧ k ≤ p + 1 ∧ i = .int .i64 k ∧ Sought s p.toNat k ∧ Below w.heap.size w wr) (fun i _ => 4 - (intOf i).toNat)
  case atStart => exact ⟨1, by omega, by omega, by omega, rfl, fun j h1 h2 => by omega, Below.refl _ _⟩
  case round =>
    obtain ⟨k, hk1, hk4, hkp, rfl, hs, hbw⟩ := hrel
    by_cases hc : k ≤ 3 ∧ k ≤ p
    · obtain ⟨hc1, hc2⟩ := hc
      have HW := Lib.hid hbw
      clear hbw
      by_cases hw : k < width s (p - k).toNat
      · have HF := Lib.hid (insK_found s p.toNat k hk1 hc1 (by omega) (by rw [show p.toNat - k = (p - k).toNat by omega]; exact hw) hs)
        clear hs
        go_wp2_with (go_at_call 35; refine (at_calls A c s (p - k) _ (HG.out.below HW.out hlt) (HB.out.below HW.out) (by omega) (by omega)).mono ?_; rintro e w' ⟨rfl, hb1⟩; generalize rune s (p - ↑k).toNat = rr; generalize whole s (p - ↑k).toNat = ww; generalize width s (p - ↑k).toNat = wd at hw ⊢)
        go_ret
        exact ⟨by rw [HF.out]; rfl, HW.out.trans (hb1.mono HW.out.size)⟩
      · have HN : Hid (Sought s p.toNat (k + 1)) := by
          intro j h1 h2
          rcases Nat.lt_or_ge j k with h | h
          · exact hs j h1 h
          · obtain rfl : j = k := by omega
            rw [show p.toNat - j = (p - j).toNat by omega]; omega
        clear hs
        go_wp2_with (go_at_call 35; refine (at_calls A c s (p - k) _ (HG.out.below HW.out hlt) (HB.out.below HW.out) (by omega) (by omega)).mono ?_; rintro e w' ⟨rfl, hb1⟩; generalize rune s (p - ↑k).toNat = rr; generalize whole s (p - ↑k).toNat = ww; generalize width s (p - ↑k).toNat = wd at hw ⊢)
        go_roundw
        case rel => exact ⟨k + 1, by omega, by omega, by omega, by go_num, HN.out, HW.out.trans (hb1.mono HW.out.size)⟩
        case measure => simp [intOf]; omega
    · have HF := Lib.hid (insK_none s p.toNat k (by omega) hs)
      clear hs
      by_cases hc1 : k ≤ 3
      · have hc2 : p < k := by omega
        clear hc
        go_wp2_with fail
        go_ret
        exact ⟨by rw [HF.out]; rfl, hbw⟩
      · clear hc
        go_wp2_with fail
        go_ret
        exact ⟨by rw [HF.out]; rfl, hbw⟩

set_option maxHeartbeats 400000 in
theorem floor_out (A : Option Addr) (c : Nat) (s : ByteArray) (p : Int) (w : World) (h : p < 0 ∨ s.size < p) :
    Calls Tryd.prog 22 #[.slice A s.size c, .int .i64 p] w fun e w' => e = .returned (.tuple #[.int .i64 0, .int .i64 2]) ∧ w = w' := by
  rcases h with h | h
  · go_enter Tryd.func22, Tryd.ntmps22
    go_wp2_with fail
    go_ret2
    exact ⟨rfl, rfl⟩
  · have h2 : ¬ p < 0 := by omega
    go_enter Tryd.func22, Tryd.ntmps22
    go_wp2_with fail
    go_ret2
    exact ⟨rfl, rfl⟩
set_option maxHeartbeats 400000 in
theorem floor_in (A : Option Addr) (c : Nat) (s : ByteArray) (p : Int) (w : World) (hg : BadLies w) (hb : Byt w A c s) (h0 : 0 ≤ p) (hp : p ≤ s.size) :
    Calls Tryd.prog 22 #[.slice A s.size c, .int .i64 p] w fun e w' => e = .returned (.tuple #[.int .i64 (floorP s p.toNat), .int .i64 0]) ∧ Below w.heap.size w w' := by
  have hmax := hb.small
  have hk := insK_le s p.toNat
  have HF : Hid ((floorP s p.toNat : Int) = p - insK s p.toNat) := by show _ = _; unfold floorP; omega
  have HG := Lib.hid hg
  have HB := Lib.hid hb
  clear hg hb
  go_enter Tryd.func22, Tryd.ntmps22
  go_wp2_with (go_at_call 34; refine (inside_calls A c s p _ HG.out HB.out h0 hp).mono ?_; rintro e w' ⟨rfl, hb1⟩)
  go_ret2
  exact ⟨by rw [HF.out]; rfl, hb1⟩

/-- is p a place and an edge? -/
def edgeB (s : ByteArray) (p : Int) : Bool := decide (0 ≤ p ∧ p ≤ s.size ∧ insK s p.toNat = 0)
set_option maxHeartbeats 400000 in
theorem edge_calls (A : Option Addr) (c : Nat) (s : ByteArray) (p : Int) (w : World) (hg : BadLies w) (hb : Byt w A c s) :
    Calls Tryd.prog 11 #[.slice A s.size c, .int .i64 p] w fun e w' => e = .returned (.bool (edgeB s p)) ∧ Below w.heap.size w w' := by
  by_cases h : 0 ≤ p ∧ p ≤ s.size
  · obtain ⟨h0, hp⟩ := h
    have hk := insK_le s p.toNat
    have HE : Hid (edgeB s p = ((floorP s p.toNat : Int) == p)) := by
      show _ = _
      rw [Bool.eq_iff_iff]
      unfold edgeB floorP
      simp only [decide_eq_true_eq, beq_iff_eq]
      omega
    have HG := Lib.hid hg
    have HB := Lib.hid hb
    clear hg hb hk
    go_enter Tryd.func11, Tryd.ntmps11
    go_wp2_with (go_at_call 22; refine (floor_in A c s p _ HG.out HB.out h0 hp).mono ?_; rintro e w' ⟨rfl, hb1⟩)
    go_ret
    exact ⟨by rw [HE.out]; rfl, hb1⟩
  · have HE : Hid (edgeB s p = false) := by
      show _ = _
      unfold edgeB; rw [decide_eq_false_iff_not]; omega
    have h' : p < 0 ∨ (s.size : Int) < p := by omega
    have H := Lib.hid h'
    clear h h' hg hb
    go_enter Tryd.func11, Tryd.ntmps11
    go_wp2_with (go_at_call 22; refine (floor_out A c s p _ H.out).mono ?_; rintro e w' ⟨rfl, rfl⟩)
    go_ret
    exact ⟨by rw [HE.out]; rfl, Below.refl _ _⟩

set_option maxHeartbeats 400000 in
theorem ceil_out (A : Option Addr) (c : Nat) (s : ByteArray) (p : Int) (w : World) (h : p < 0 ∨ s.size < p) :
    Calls Tryd.prog 24 #[.slice A s.size c, .int .i64 p] w fun e w' => e = .returned (.tuple #[.int .i64 0, .int .i64 2]) ∧ w = w' := by
  have H := Lib.hid h
  clear h
  go_enter Tryd.func24, Tryd.ntmps24
  go_wp2_with (go_at_call 22; refine (floor_out A c s p _ H.out).mono ?_; rintro e w' ⟨rfl, rfl⟩)
  go_ret2
  exact ⟨rfl, rfl⟩
set_option maxHeartbeats 400000 in
theorem ceil_in (A : Option Addr) (c : Nat) (s : ByteArray) (p : Int) (w : World) (hg : BadLies w) (hb : Byt w A c s) (h0 : 0 ≤ p) (hp : p ≤ s.size) :
    Calls Tryd.prog 24 #[.slice A s.size c, .int .i64 p] w fun e w' => e = .returned (.tuple #[.int .i64 (ceilP s p.toNat), .int .i64 0]) ∧ Below w.heap.size w w' := by
  have hmax := hb.small
  have hlt := hg.lt
  have hk := insK_le s p.toNat
  have HG := Lib.hid hg
  have HB := Lib.hid hb
  clear hg hb
  by_cases hi : insK s p.toNat = 0
  · have ht : ((floorP s p.toNat : Int) == p) = true := by rw [beq_iff_eq]; unfold floorP; omega
    have HC : Hid (ceilP s p.toNat = floorP s p.toNat) := by show _ = _; unfold ceilP floorP; rw [if_pos hi]; omega
    clear hi hk
    go_enter Tryd.func24, Tryd.ntmps24
    go_wp2_with (go_at_call 22; refine (floor_in A c s p _ HG.out HB.out h0 hp).mono ?_; rintro e w' ⟨rfl, hb1⟩; generalize floorP s p.toNat = q at ht HC ⊢)
    go_ret2
    exact ⟨by rw [HC.out]; rfl, hb1⟩
  · have ht : ((floorP s p.toNat : Int) == p) = false := by rw [beq_eq_false_iff_ne]; unfold floorP; omega
    have hins := (ins_iff s p.toNat).2 hi
    have hfl : (floorP s p.toNat : Int) < s.size := by have := ins_lt s _ hins; unfold floorP; omega
    have HC : Hid ((ceilP s p.toNat : Int) = floorP s p.toNat + width s (floorP s p.toNat)) := by
      show _ = _
      have := insK_spec s _ hins
      unfold ceilP floorP width
      rw [if_neg hi, if_neg (by omega)]
      omega
    have hwd := width_le s (floorP s p.toNat)
    clear hi hk hins
    go_enter Tryd.func24, Tryd.ntmps24
    go_wp2_with (first | (go_at_call 22; refine (floor_in A c s p _ HG.out HB.out h0 hp).mono ?_; rintro e w' ⟨rfl, hb1⟩; generalize floorP s p.toNat = q at ht hfl hwd HC ⊢) | (go_at_call 35; refine (at_calls A c s q _ (HG.out.below hb1 hlt) (HB.out.below hb1) (by omega) hfl).mono ?_; rw [Int.toNat_natCast]; rintro e w2 ⟨rfl, hb2⟩; generalize rune s q = rr; generalize whole s q = ww; generalize width s q = wd at hwd HC ⊢))
    go_ret2
    exact ⟨by rw [HC.out]; rfl, hb1.trans (hb2.mono hb1.size)⟩
end Go.Proofs.YtcnbfpmognijcaaDoor
