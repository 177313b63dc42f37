/- Contracts of the reference's Inside, Edge. -/
import Derived.Test.YtcnbfpmognijcaaDoorRef2
import Derived.Test.YtcnbfpmognijcaaDoorStep2
namespace Go.Proofs.YtcnbfpmognijcaaDoor
open Go.RowKit Galley Go.Proofs.YtcnbfpmognijcaaDoorW.PrintWords

/-- is p inside? -/
def insB (s : ByteArray) (p : Int) : Bool := decide (insK s p.toNat ≠ 0)
theorem insB_found (s : ByteArray) (p : Int) (k : Nat) (h0 : 0 ≤ p) (h1 : 1 ≤ k) (h3 : k ≤ 3) (hp : k ≤ p) (h : k < long s (p - k).toNat) : insB s p = true := by
  unfold insB
  rw [decide_eq_true_eq, ← ins_iff]
  exact ⟨k, h1, h3, by omega, by rwa [show p.toNat - k = (p - k).toNat by omega]⟩
theorem insB_none (s : ByteArray) (p : Int) (h0 : 0 ≤ p) (h : ∀ k : Nat, 1 ≤ k → k < 4 → k ≤ p → long s (p - k).toNat ≤ k) : insB s p = false := by
  unfold insB
  rw [decide_eq_false_iff_not]
  intro hn
  obtain ⟨k, h1, h3, hp, hk⟩ := (ins_iff s p.toNat).2 hn
  have := h k h1 (by omega) (by omega)
  rw [show p.toNat - k = (p - k).toNat by omega] at hk
  omega

def SoughtR (s : ByteArray) (p : Int) (n : Nat) : Prop := ∀ k : Nat, 1 ≤ k → k < n → k ≤ p → long s (p - k).toNat ≤ k
set_option maxHeartbeats 400000 in
theorem refInside_calls (A : Option Addr) (c : Nat) (s : ByteArray) (p : Int) (w : World) (hb : Byt w A c s) (h0 : 0 ≤ p) (hp : p ≤ 1152921504606846976) :
    Calls Tryd.prog 36 #[.slice A s.size c, .int .i64 p] w fun e w' => e = .returned (.bool (insB s p)) ∧ w = w' := by
  have HB := Lib.hid hb
  clear hb
  go_enter Tryd.func36, Tryd.ntmps36
  go_wp2_with fail
  go_loop [5] (fun i => ∃ k : Nat, 1 ≤ k ∧ k ≤ 4 ∧ i = .int .i64 k ∧ SoughtR s p k) (fun i => 4 - (intOf i).toNat)
  case atStart => exact ⟨1, by omega, by omega, rfl, fun j h1 h2 => by omega⟩
  case round =>
    obtain ⟨k, hk1, hk4, rfl, hs⟩ := hrel
    by_cases hc1 : k ≤ 3
    · by_cases hc2 : k ≤ p
      · by_cases hw : k < long s (p - k).toNat
        · have HF := Lib.hid (insB_found s p k h0 hk1 hc1 hc2 hw)
          clear hs
          go_wp2_with (go_at_call 40; refine (refLong_calls A c s (p - k) _ HB.out (by omega) (by omega)).mono ?_; rintro e w' ⟨rfl, rfl⟩; generalize long s (p - ↑k).toNat = wd at hw ⊢)
          go_ret
          exact ⟨by rw [HF.out]; rfl, rfl⟩
        · have HN : Hid (SoughtR s p (k + 1)) := by
            intro j h1 h2 h3
            rcases Nat.lt_or_ge j k with h | h
            · exact hs j h1 h h3
            · obtain rfl : j = k := by omega
              omega
          clear hs
          go_wp2_with (go_at_call 40; refine (refLong_calls A c s (p - k) _ HB.out (by omega) (by omega)).mono ?_; rintro e w' ⟨rfl, rfl⟩; generalize long s (p - ↑k).toNat = wd at hw ⊢)
          go_round
          case rel => exact ⟨k + 1, by omega, by omega, by go_num, HN.out⟩
          case measure => simp [intOf]; omega
      · have HN : Hid (SoughtR s p (k + 1)) := by
          intro j h1 h2 h3
          rcases Nat.lt_or_ge j k with h | h
          · exact hs j h1 h h3
          · omega
        have hc3 : ¬ 0 ≤ p - k := by omega
        clear hs hc2
        go_wp2_with fail
        go_round
        case rel => exact ⟨k + 1, by omega, by omega, by go_num, HN.out⟩
        case measure => simp [intOf]; omega
    · have hk : k = 4 := by omega
      subst hk
      have HF := Lib.hid (insB_none s p h0 hs)
      clear hs hc1
      go_wp2_with fail
      go_ret
      exact ⟨by rw [HF.out]; rfl, rfl⟩

theorem edgeB_in (s : ByteArray) (p : Int) (h0 : 0 ≤ p) (hp : p ≤ s.size) : edgeB s p = !insB s p := by
  unfold edgeB insB
  rw [Bool.eq_iff_iff]
  simp
  omega
set_option maxHeartbeats 400000 in
theorem refEdge_calls (A : Option Addr) (c : Nat) (s : ByteArray) (p : Int) (w : World) (hb : Byt w A c s) :
    Calls Tryd.prog 21 #[.slice A s.size c, .int .i64 p] w fun e w' => e = .returned (.bool (edgeB s p)) ∧ w = w' := by
  have hmax := hb.small
  by_cases h1 : 0 ≤ p
  · by_cases h2 : p ≤ s.size
    · have HE := Lib.hid (edgeB_in s p h1 h2)
      have HB := Lib.hid hb
      clear hb
      go_enter Tryd.func21, Tryd.ntmps21
      go_wp2_with (go_at_call 36; refine (refInside_calls A c s p _ HB.out h1 (by omega)).mono ?_; rintro e w' ⟨rfl, rfl⟩)
      go_ret
      exact ⟨by rw [HE.out]; rfl, rfl⟩
    · have HE : Hid (edgeB s p = false) := by show _ = _; unfold edgeB; rw [decide_eq_false_iff_not]; omega
      have h3 : s.size < p := by omega
      clear hb h2
      go_enter Tryd.func21, Tryd.ntmps21
      go_wp2_with fail
      go_ret
      exact ⟨by rw [HE.out]; rfl, rfl⟩
  · have HE : Hid (edgeB s p = false) := by show _ = _; unfold edgeB; rw [decide_eq_false_iff_not]; omega
    have h3 : p < 0 := by omega
    clear hb h1
    go_enter Tryd.func21, Tryd.ntmps21
    go_wp2_with fail
    go_ret
    exact ⟨by rw [HE.out]; rfl, rfl⟩
end Go.Proofs.YtcnbfpmognijcaaDoor
