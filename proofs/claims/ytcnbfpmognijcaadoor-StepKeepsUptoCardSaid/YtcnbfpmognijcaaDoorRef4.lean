/- Contracts of the reference's Of, At, Before, Floor, Ceil. -/
import Derived.Test.YtcnbfpmognijcaaDoorRef3
namespace Go.Proofs.YtcnbfpmognijcaaDoor
open Go.RowKit Galley Go.Proofs.YtcnbfpmognijcaaDoorW.PrintWords

/-- the rune as it is gathered, byte by byte -/
def racc (x0 : Nat) (f : Nat → Nat) : Nat → Nat
  | 0 => x0
  | k + 1 => racc x0 f k * 64 + f (k + 1) % 64
def leadN (n x : Nat) : Nat := if n = 2 then x % 32 else if n = 3 then x % 16 else if n = 4 then x % 8 else x
theorem racc_rune (s : ByteArray) (p n : Nat) (h : long s p = n) (hn : n ≠ 0) : racc (leadN n (Galley.bt s p)) (fun j => Galley.bt s (p + j)) (n - 1) = rune s p := by
  subst h
  revert hn
  unfold long rune rl
  rcases stepN_cases (s.size - p) (Galley.bt s p) (Galley.bt s (p + 1)) (Galley.bt s (p + 2)) (Galley.bt s (p + 3)) with ⟨e, c⟩ | ⟨e, c⟩ | ⟨e, c⟩ | ⟨e, c⟩ | e
  all_goals rw [e]
  all_goals intro hn
  · simp [racc, leadN]
  · simp [racc, leadN]
  · simp [racc, leadN]; omega
  · simp [racc, leadN]; omega
  · simp at hn
theorem racc_le (n x0 : Nat) (f : Nat → Nat) (h1 : 1 ≤ n) (h4 : n ≤ 4) (hx : x0 < 256) (k : Nat) (hk : k + 1 ≤ n) : racc (leadN n x0) f k < 4194304 := by
  have hl : leadN n x0 < 256 ∧ (n = 2 → leadN n x0 < 32) ∧ (n = 3 → leadN n x0 < 16) ∧ (n = 4 → leadN n x0 < 8) := by
    unfold leadN
    refine ⟨?_, fun h => ?_, fun h => ?_, fun h => ?_⟩
    · repeat' split
      all_goals omega
    · subst h; simp; omega
    · subst h; simp; omega
    · subst h; simp; omega
  generalize leadN n x0 = a at *
  obtain ⟨l1, l2, l3, l4⟩ := hl
  have hk' : k = 0 ∨ k = 1 ∨ k = 2 ∨ k = 3 := by omega
  have f1 := Nat.mod_lt (f 1) (show 64 > 0 by omega)
  have f2 := Nat.mod_lt (f 2) (show 64 > 0 by omega)
  have f3 := Nat.mod_lt (f 3) (show 64 > 0 by omega)
  rcases hk' with rfl | rfl | rfl | rfl
  · simp only [racc]; omega
  · simp only [racc, Nat.zero_add]; omega
  · simp only [racc, Nat.zero_add, Nat.reduceAdd]
    have : n = 3 ∨ n = 4 := by omega
    rcases this with h | h
    · have := l3 h; omega
    · have := l4 h; omega
  · simp only [racc, Nat.zero_add, Nat.reduceAdd]
    have := l4 (by omega); omega

/-- the world behind the result's block reads the same bytes -/
theorem Byt.cell_alloc {w : World} {A : Option Addr} {c : Nat} {s : ByteArray} (h : Byt w A c s) (o : Obj) (p : Int) (h0 : 0 ≤ p) (hp : p < s.size) :
    ∃ ad, A = some ad ∧ (w.alloc o).cell? (ad.add p.toNat) = some (.int .u8 (Galley.bt s p.toNat)) :=
  (h.below ((Below.refl _ w).alloc (Nat.le_refl _) o)).cell p h0 hp

set_option maxHeartbeats 400000 in
theorem refOf_none (A : Option Addr) (c : Nat) (s : ByteArray) (p : Int) (w : World) (hb : Byt w A c s) (h0 : 0 ≤ p) (hp : p ≤ 1152921504606846976) (hl : long s p.toNat = 0) :
    Calls Tryd.prog 37 #[.slice A s.size c, .int .i64 p] w fun e w' => e = .returned (.agg #[.int .i32 (rune s p.toNat), .int .i64 (width s p.toNat), .bool (whole s p.toNat)]) ∧ Below w.heap.size w w' := by
  have HS := Lib.hid (stepV_none s p.toNat hl)
  have HL := Lib.hid hl
  have hb' := fun o => hb.below ((Below.refl _ w).alloc (Nat.le_refl _) o)
  have HB := Lib.hid hb'
  clear hb hb' hl
  go_enter Tryd.func37, Tryd.ntmps37
  go_wp2_with (go_at_call 40; refine (refLong_calls A c s p _ (HB.out _) h0 hp).mono ?_; rw [HL.out]; rintro e w' ⟨rfl, rfl⟩)
  refine bodyPost_ret (v := .agg #[.int .i32 65533, .int .i64 1, .bool false]) (by simp [results, Tryd.results37, go_sem]) rfl ⟨congrArg _ HS.out.symm, ?_⟩
  exact (Below.refl _ _).alloc (Nat.le_refl _) _

set_option maxHeartbeats 1000000 in
theorem refOf_some (A : Option Addr) (c : Nat) (s : ByteArray) (p : Int) (w : World) (hb : Byt w A c s) (h0 : 0 ≤ p) (hp : p < s.size) (hl : long s p.toNat ≠ 0) :
    Calls Tryd.prog 37 #[.slice A s.size c, .int .i64 p] w fun e w' => e = .returned (.agg #[.int .i32 (rune s p.toNat), .int .i64 (width s p.toNat), .bool (whole s p.toNat)]) ∧ Below w.heap.size w w' := by
  have hmax := hb.small
  obtain ⟨n, hn⟩ : ∃ n, long s p.toNat = n := ⟨_, rfl⟩
  have h4 := long_le s p.toNat
  have hend := long_end s p.toNat
  have hrr := racc_rune s p.toNat n hn (by omega)
  have hle := racc_le n (Galley.bt s p.toNat) (fun j => Galley.bt s (p.toNat + j)) (by omega) (by omega) (Galley.bt_lt _ _)
  have hwd : width s p.toNat = n := by unfold width; rw [if_neg hl]; exact hn
  have hwh : whole s p.toNat = true := by unfold whole; exact decide_eq_true hl
  have HR : Hid ((rune s p.toNat : Int) = (racc (leadN n (Galley.bt s p.toNat)) (fun j => Galley.bt s (p.toNat + j)) (n - 1) : Nat)) := by show _ = _; rw [hrr]
  rw [hwd, hwh]
  rw [hn] at hl h4 hend
  have HL := Lib.hid hn
  have hb' := fun o => hb.below ((Below.refl _ w).alloc (Nat.le_refl _) o)
  have HB := Lib.hid hb'
  obtain ⟨ad, rfl, hc0⟩ := hb.cell_alloc (.cells #[.int .i32 0, .int .i64 0, .bool false] 32) p h0 hp
  have HC : Hid (∀ k : Nat, p + k < s.size → (w.alloc (.cells #[.int .i32 0, .int .i64 0, .bool false] 32)).cell? (ad.add (p.toNat + k)) = some (.int .u8 (Galley.bt s (p.toNat + k)))) := by
    intro k hk
    obtain ⟨ad', e, hc⟩ := hb.cell_alloc (.cells #[.int .i32 0, .int .i64 0, .bool false] 32) (p + k) (by omega) hk
    cases e
    rwa [show (p + k).toNat = p.toNat + k by omega] at hc
  have hx := Galley.bt_lt s p.toNat
  have HLE := Lib.hid hle
  clear hb hb' hn hrr hwd hwh hle
  generalize hg : (racc (leadN n (Galley.bt s p.toNat)) (fun j => Galley.bt s (p.toNat + j))) = acc at *
  have HA0 : Hid (acc 0 = leadN n (Galley.bt s p.toNat)) := by show _ = _; rw [← hg]; rfl
  have HAS : Hid (∀ k, acc (k + 1) = acc k * 64 + Galley.bt s (p.toNat + (k + 1)) % 64) := by intro k; rw [← hg]; rfl
  clear hg
  generalize Galley.bt s p.toNat = x at hc0 hx HA0
  have hcase : n = 1 ∨ n = 2 ∨ n = 3 ∨ n = 4 := by omega
  have hsz : p + n ≤ s.size := by omega
  clear hl h4 hend
  have hn1 : 1 ≤ n := by omega
  have e0 : ((n : Int) == 0) = false := by rw [beq_eq_false_iff_ne]; omega
  have HS0 : Hid ((n = 2 → acc 0 = x % 32) ∧ (n = 3 → acc 0 = x % 16) ∧ (n = 4 → acc 0 = x % 8) ∧ (n = 1 → acc 0 = x)) := by
    show _ ∧ _
    rw [HA0.out]; unfold leadN
    refine ⟨fun h => ?_, fun h => ?_, fun h => ?_, fun h => ?_⟩
    all_goals subst h
    all_goals rfl
  rcases hcase with h | h | h | h
  all_goals first | (have e2 : ((n : Int) == 2) = true := by rw [beq_iff_eq]; omega) | (have e2 : ((n : Int) == 2) = false := by rw [beq_eq_false_iff_ne]; omega)
  all_goals first | (have e3 : ((n : Int) == 3) = true := by rw [beq_iff_eq]; omega) | (have e3 : ((n : Int) == 3) = false := by rw [beq_eq_false_iff_ne]; omega)
  all_goals first | (have e4 : ((n : Int) == 4) = true := by rw [beq_iff_eq]; omega) | (have e4 : ((n : Int) == 4) = false := by rw [beq_eq_false_iff_ne]; omega)
  all_goals
    have H := Lib.hid h
    clear h
    go_enter Tryd.func37, Tryd.ntmps37
    go_wp2_with (go_at_call 40; refine (refLong_calls (some ad) c s p _ (HB.out _) h0 (by omega)).mono ?_; rw [HL.out]; rintro e w' ⟨rfl, rfl⟩)
    go_loop [6, 7] (fun r i => ∃ k : Nat, k + 1 ≤ n ∧ i = .int .i64 ((k : Int) + 1) ∧ r = .int .i64 (acc k)) (fun _ i => n - (intOf i).toNat)
    case atStart => exact ⟨0, by omega, rfl, by have h := HS0.out; have h' := H.out; first | (rw [h.1 h']; rfl) | (rw [h.2.1 h']; rfl) | (rw [h.2.2.1 h']; rfl) | (rw [h.2.2.2 h'])⟩
    case round =>
      obtain ⟨k, hk, rfl, rfl⟩ := hrel
      have hb1 := HLE.out k hk
      by_cases hlt : (k : Int) + 1 < n
      · have hc := HC.out (k + 1) (by omega)
        have hy := Galley.bt_lt s (p.toNat + (k + 1))
        have HK := Lib.hid (HAS.out k)
        generalize Galley.bt s (p.toNat + (k + 1)) = y at hc hy HK
        rw [show p.toNat + (k + 1) = (p + ((k : Int) + 1)).toNat by omega] at hc
        generalize hak : acc k = a at hb1 HK ⊢
        clear hak
        go_wp2_with fail
        go_round
        case rel => exact ⟨k + 1, by omega, by go_num, by rw [HK.out]; go_num⟩
        case measure => simp [intOf]; omega
      · have hkn : Hid (k = n - 1) := by show _ = _; omega
        go_wp2_with fail
        refine bodyPost_ret (v := .agg #[.int .i32 (acc k), .int .i64 n, .bool true]) (by simp [results, Tryd.results37, go_sem]) rfl ⟨?_, ?_⟩
        · rw [HR.out, hkn.out]
        · exact (Below.refl _ _).alloc (Nat.le_refl _) _
end Go.Proofs.YtcnbfpmognijcaaDoor
