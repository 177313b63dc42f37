/- A slice of bytes that is read, as a byte array; the contract of step.at. -/
import Derived.Test.YtcnbfpmognijcaaDoorFirst
import Derived.Test.YtcnbfpmognijcaaDoorWWords
namespace Go.Proofs.YtcnbfpmognijcaaDoor
open Go.RowKit Galley Go.Proofs.YtcnbfpmognijcaaDoorW.PrintWords

theorem strOf_bytesOf (s : ByteArray) : strOfNums (bytesOf s) = s := by
  obtain ⟨⟨l⟩⟩ := s
  unfold strOfNums bytesOf
  congr 2
  simp only [List.map_map]
  conv => rhs; rw [← List.map_id l]
  apply List.map_congr_left
  intro b _
  simp
theorem bytesOf_extract (s : ByteArray) (a b : Nat) (h : b ≤ s.size) : bytesOf (s.extract a b) = ((bytesOf s).take b).drop a := by
  obtain ⟨⟨l⟩⟩ := s
  unfold bytesOf
  rw [Lib.extract_data]
  simp only [List.map_take, List.map_drop]
  rw [List.drop_take]

/-- the slice value '.slice A s.size c' reads as the bytes s -/
structure Byt (w : World) (A : Option Addr) (c : Nat) (s : ByteArray) : Prop where
  reads : Kd.C (Kd.int .u8) w A (bytesOf s).length (bytesOf s)
  cap : s.size ≤ c
  small : s.size ≤ 140737488355328
theorem Byt.below {w w' : World} {A : Option Addr} {c : Nat} {s : ByteArray} (h : Byt w A c s) (hb : Below w.heap.size w w') : Byt w' A c s := ⟨Kd.C_below h.reads hb, h.cap, h.small⟩
theorem Byt.reads' {w : World} {A : Option Addr} {c : Nat} {s : ByteArray} (h : Byt w A c s) : Kd.C (Kd.int .u8) w A s.size (bytesOf s) := by have := h.reads; rwa [bytesOf_length] at this
theorem Byt.str {w : World} {A : Option Addr} {c : Nat} {s : ByteArray} (h : Byt w A c s) :
    (convert 22 9 (.slice A s.size c)).run Tryd.prog w = .ok (.string s) w := by
  have h1 := Kd.C_string (P := Tryd.prog) (w := w) (src := 22) (dst := 9) (e := 5) (c := c) Tryd.underlying22 Tryd.underlying5 Tryd.underlying9 h.reads
  rwa [strOf_bytesOf, bytesOf_length] at h1
theorem infoU8 : (Tryd.prog.info? 5).map (fun i => (i.zero, i.size, i.bytes)) = some (some (.int .u8 0), 1, 1) := by kernel_rfl

/-- 'b[lo:hi]': the address is a letter -/
theorem Byt.cut {w : World} {A : Option Addr} {c : Nat} {s : ByteArray} (h : Byt w A c s) (lo hi : Int) (h0 : 0 ≤ lo) (h1 : lo ≤ hi) (h2 : hi ≤ s.size) :
    ∃ A', (∀ W : World, (Instr.slice 22 (.slice A s.size c) (some (.int .i64 lo)) (some (.int .i64 hi)) none).run Tryd.prog W = .ok (.slice A' (s.extract lo.toNat hi.toNat).size (c - lo.toNat)) W) ∧
      Byt w A' (c - lo.toNat) (s.extract lo.toNat hi.toNat) := by
  obtain ⟨i0, hi0, hz0, hz1, hz2⟩ := info_parts infoU8
  have hcut := cut_mid (P := Tryd.prog) 22 5 .i64 .i64 Tryd.underlying22 hi0 1 hz1 A s.size c lo hi h0 h1 h2 h.cap
  have hsz : (s.extract lo.toNat hi.toNat).size = hi.toNat - lo.toNat := extract_size s _ _ (by omega)
  have hmid := Kd.C_mid (k := Kd.int .u8) (c := c) h.reads (lo := lo.toNat) (hi := hi.toNat) (by omega) (by rw [bytesOf_length]; omega) (by rw [bytesOf_length]; exact h.cap)
  rw [← bytesOf_extract s _ _ (by omega)] at hmid
  exact ⟨_, fun W => by rw [hcut W, hsz]; rfl, hmid, by have := h.cap; rw [hsz]; omega, by have := h.small; rw [hsz]; omega⟩

set_option maxHeartbeats 400000 in
theorem at_calls (A : Option Addr) (c : Nat) (s : ByteArray) (p : Int) (w : World) (hg : BadLies w) (hb : Byt w A c s) (h0 : 0 ≤ p) (hp : p < s.size) :
    Calls Tryd.prog 35 #[.slice A s.size c, .int .i64 p] w fun e w' => e = .returned (.agg #[.int .i32 (rune s p.toNat), .int .i64 (width s p.toNat), .bool (whole s p.toNat)]) ∧ Below w.heap.size w w' := by
  have hmax := hb.small
  have hcap := hb.cap
  have hlt := hg.lt
  have key : ∀ q : Int, q ≤ s.size → min (p + 4) (s.size : Int) ≤ q → p < q →
      stepV (s.extract p.toNat q.toNat) 0 = stepV s p.toNat ∧ 0 < (s.extract p.toNat q.toNat).size := by
    intro q h1 h2 h3
    have hr := rl_extract s p.toNat q.toNat (by omega) (by omega)
    refine ⟨?_, by rw [extract_size s _ _ (by omega)]; omega⟩
    unfold stepV rune width whole long; rw [hr]
  by_cases h4 : p + 4 ≤ s.size
  · obtain ⟨A', hcut, hb'⟩ := hb.cut p (p + 4) h0 (by omega) (by omega)
    obtain ⟨k1, k2⟩ := key (p + 4) h4 (by omega) (by omega)
    have K1 := Lib.hid k1
    clear k1
    clear key
    generalize s.extract p.toNat (p + 4).toNat = x at *
    generalize c - p.toNat = c' at *
    have hstr := fun o => (hb'.below (((Below.refl _ w).alloc (Nat.le_refl _) o))).str
    have hg' := fun o => hg.below (((Below.refl _ w).alloc (Nat.le_refl _) o)) hlt
    have hg' := Lib.hid hg'
    clear hg hb hb'
    go_enter Tryd.func35, Tryd.ntmps35
    go_wp2_with (go_at_call 33; refine (first_calls x _ (hg'.out _) k2).mono ?_; rintro e w' ⟨rfl, hb1⟩; obtain ⟨n1, n2, n3⟩ := new3 hb1; obtain ⟨⟨m1, m2, m3⟩, f1, f2, f3⟩ := cell_of3 n1; clear hb1 n1)
    refine bodyPost_ret (v := stepV x 0) (by simp [results, Tryd.results35, go_sem, m1, m2, m3]) rfl ⟨congrArg _ K1.out, ?_⟩
    exact ((n3.setCell (Nat.le_refl _) _).setCell (Nat.le_refl _) _).setCell (Nat.le_refl _) _
  · obtain ⟨A', hcut, hb'⟩ := hb.cut p s.size h0 (by omega) (by omega)
    obtain ⟨k1, k2⟩ := key s.size (by omega) (by omega) (by omega)
    have K1 := Lib.hid k1
    clear k1
    clear key
    generalize s.extract p.toNat (s.size : Int).toNat = x at *
    generalize c - p.toNat = c' at *
    have hstr := fun o => (hb'.below (((Below.refl _ w).alloc (Nat.le_refl _) o))).str
    have hg' := fun o => hg.below (((Below.refl _ w).alloc (Nat.le_refl _) o)) hlt
    have hg' := Lib.hid hg'
    clear hg hb hb'
    go_enter Tryd.func35, Tryd.ntmps35
    go_wp2_with (go_at_call 33; refine (first_calls x _ (hg'.out _) k2).mono ?_; rintro e w' ⟨rfl, hb1⟩; obtain ⟨n1, n2, n3⟩ := new3 hb1; obtain ⟨⟨m1, m2, m3⟩, f1, f2, f3⟩ := cell_of3 n1; clear hb1 n1)
    refine bodyPost_ret (v := stepV x 0) (by simp [results, Tryd.results35, go_sem, m1, m2, m3]) rfl ⟨congrArg _ K1.out, ?_⟩
    exact ((n3.setCell (Nat.le_refl _) _).setCell (Nat.le_refl _) _).setCell (Nat.le_refl _) _
end Go.Proofs.YtcnbfpmognijcaaDoor
