/- Contracts of the reference's at, in, Long. -/
import Derived.Test.YtcnbfpmognijcaaDoorByt
import Derived.BigGuardPart
namespace Go.Proofs.YtcnbfpmognijcaaDoor
open Go.RowKit Galley Go.Proofs.YtcnbfpmognijcaaDoorW.PrintWords

/-- the byte at a place, -1 outside -/
def atI (s : ByteArray) (p : Int) : Int := if 0 ≤ p ∧ p < s.size then (Galley.bt s p.toNat : Int) else -1
def inB (x lo hi : Int) : Bool := decide (lo ≤ x ∧ x ≤ hi)

theorem Byt.cell {w : World} {A : Option Addr} {c : Nat} {s : ByteArray} (h : Byt w A c s) (p : Int) (h0 : 0 ≤ p) (hp : p < s.size) :
    ∃ ad, A = some ad ∧ w.cell? (ad.add p.toNat) = some (.int .u8 (Galley.bt s p.toNat)) := by
  obtain ⟨ad, e, hc⟩ := Kd.at_int h.reads p h0 (by rw [bytesOf_length]; exact hp)
  refine ⟨ad, e, ?_⟩
  rw [hc, rd_bytesOf]
  congr 2
  unfold Go.Proofs.YtcnbfpmognijcaaDoorW.PrintWords.bt
  rw [dif_pos (by omega), bt_get s p.toNat (by omega)]

set_option maxHeartbeats 400000 in
theorem refAt_calls (A : Option Addr) (c : Nat) (s : ByteArray) (p : Int) (w : World) (hb : Byt w A c s) :
    Calls Tryd.prog 42 #[.slice A s.size c, .int .i64 p] w fun e w' => e = .returned (.int .i64 (atI s p)) ∧ w = w' := by
  by_cases h1 : p < 0
  · have HA : Hid (atI s p = -1) := by show _ = _; unfold atI; rw [if_neg (by omega)]
    clear hb
    go_enter Tryd.func42, Tryd.ntmps42
    go_wp2_with fail
    go_ret
    exact ⟨by rw [HA.out]; rfl, rfl⟩
  · by_cases h2 : p < s.size
    · have HA : Hid (atI s p = Galley.bt s p.toNat) := by show _ = _; unfold atI; rw [if_pos (by omega)]
      have h0 : 0 ≤ p := by omega
      have hlt := Galley.bt_lt s p.toNat
      obtain ⟨ad, rfl, hc⟩ := hb.cell p h0 h2
      generalize Galley.bt s p.toNat = x at *
      clear hb h1
      go_enter Tryd.func42, Tryd.ntmps42
      go_wp2_with fail
      go_ret
      exact ⟨by rw [HA.out]; rfl, rfl⟩
    · have HA : Hid (atI s p = -1) := by show _ = _; unfold atI; rw [if_neg (by omega)]
      have h2' : s.size ≤ p := by omega
      clear hb h2
      go_enter Tryd.func42, Tryd.ntmps42
      go_wp2_with fail
      go_ret
      exact ⟨by rw [HA.out]; rfl, rfl⟩

set_option maxHeartbeats 400000 in
theorem refIn_calls (x lo hi : Int) (w : World) :
    Calls Tryd.prog 43 #[.int .i64 x, .int .i64 lo, .int .i64 hi] w fun e w' => e = .returned (.bool (inB x lo hi)) ∧ w = w' := by
  by_cases h1 : lo ≤ x
  · have HA : Hid (inB x lo hi = decide (x ≤ hi)) := by show _ = _; unfold inB; simp [h1]
    go_enter Tryd.func43, Tryd.ntmps43
    go_wp2_with fail
    go_ret
    exact ⟨by rw [HA.out]; rfl, rfl⟩
  · have HA : Hid (inB x lo hi = false) := by show _ = _; unfold inB; simp [h1]
    have h1' : x < lo := by omega
    clear h1
    go_enter Tryd.func43, Tryd.ntmps43
    go_wp2_with fail
    go_ret
    exact ⟨by rw [HA.out]; rfl, rfl⟩

/-- what the reference makes of four bytes -/
def longI (x y z u : Int) : Int :=
  if inB x 0 127 then 1
  else if inB x 194 223 && inB y 128 191 then 2
  else if inB z 128 191 && (x == 224 && inB y 160 191 || inB x 225 236 && inB y 128 191 || x == 237 && inB y 128 159 || inB x 238 239 && inB y 128 191) then 3
  else if (inB z 128 191 && inB u 128 191) && (x == 240 && inB y 144 191 || inB x 241 243 && inB y 128 191 || x == 244 && inB y 128 143) then 4
  else 0

set_option maxRecDepth 100000 in
set_option maxHeartbeats 8000000 in
theorem refLong_any (A : Option Addr) (c : Nat) (s : ByteArray) (p : Int) (w : World) (hb : Byt w A c s) (h0 : 0 ≤ p) (hp : p ≤ 1152921504606846976) :
    Calls Tryd.prog 40 #[.slice A s.size c, .int .i64 p] w fun e w' => e = .returned (.int .i64 (longI (atI s p) (atI s (p + 1)) (atI s (p + 2)) (atI s (p + 3)))) ∧ w = w' := by
  have HB := Lib.hid hb
  clear hb
  go_enter Tryd.func40, Tryd.ntmps40
  go_wp2_with (go_at_call 42; refine (refAt_calls A c s _ _ HB.out).mono ?_; rintro e w' ⟨rfl, rfl⟩)
  generalize hx : atI s p = x
  generalize hy : atI s (p + 1) = y
  generalize hz : atI s (p + 2) = z
  generalize hu : atI s (p + 3) = u
  have HX : Hid (longI (atI s p) (atI s (p + 1)) (atI s (p + 2)) (atI s (p + 3)) = longI x y z u) := by show _ = _; rw [hx, hy, hz, hu]
  clear hx hy hz hu
  go_wp2_with (go_at_call 43; refine (refIn_calls _ _ _ _).mono ?_; rintro e w' ⟨rfl, rfl⟩)
  all_goals go_ret
  all_goals refine ⟨?_, rfl⟩
  all_goals rw [HX.out]
  all_goals refine congrArg (fun n => Ending.returned (Value.int .i64 n)) ?_
  all_goals clear HX HB
  all_goals first | (simp [longI, *]; done) | (simp +decide [longI, *]; done)
end Go.Proofs.YtcnbfpmognijcaaDoor
