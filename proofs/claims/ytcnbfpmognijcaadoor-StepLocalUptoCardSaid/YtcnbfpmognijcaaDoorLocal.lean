/- The walk of StepLocal. -/
import Derived.Test.YtcnbfpmognijcaaDoorFixed
import Derived.Test.YtcnbfpmognijcaaDoorLocalPure
namespace Go.Proofs.YtcnbfpmognijcaaDoor
open Go.RowKit Galley Go.Proofs.YtcnbfpmognijcaaDoorW.PrintWords

theorem bytesOf_append (a b : ByteArray) : bytesOf (a ++ b) = bytesOf a ++ bytesOf b := by
  unfold bytesOf
  rw [ByteArray.data_append]
  simp
/-- a row of bytes of the call's own reads as bytes -/
theorem byt_of_R {w : World} {B : Nat} {ok : Nat → Prop} {v : Value} (s : ByteArray) (h : (Kd.int .u8).R 5 w B ok v (bytesOf s)) (hs : s.size ≤ 140737488355328) :
    ∃ A c, v = .slice A s.size c ∧ Byt w A c s := by
  obtain ⟨A, c, e, hl, hr⟩ := Kd.R_reads h
  rw [bytesOf_length] at e hl
  exact ⟨A, c, e, hr, hl, hs⟩
theorem edge_mid (a b c : ByteArray) (p : Int) (h0 : 3 ≤ p) (h1 : p + 3 ≤ b.size) : edgeB (a ++ b ++ c) (a.size + p) = edgeB b p := by
  unfold edgeB
  have hk := insK_mid a b c p.toNat (by omega) (by omega)
  rw [show ((a.size : Int) + p).toNat = a.size + p.toNat by omega, hk]
  have hsz : (a ++ b ++ c).size = a.size + b.size + c.size := by rw [append_size, append_size]
  rw [Bool.eq_iff_iff]
  simp only [decide_eq_true_eq]
  rw [hsz]
  constructor
  · rintro ⟨_, _, h⟩; exact ⟨by omega, by omega, h⟩
  · rintro ⟨_, _, h⟩; exact ⟨by omega, by omega, h⟩
theorem R_empty (w : World) (base : Nat) (h : base ≤ w.heap.size) : (Kd.int .u8).R 5 (w.alloc (.cells #[] 5)) base (fun _ => True) (.slice (some ⟨w.heap.size, 0, none⟩) 0 0) (bytesOf ByteArray.empty) :=
  Kd.R_of_own (enc := Value.int .u8) (h1 := fun _ => rfl) ⟨rfl, .inr ⟨w.heap.size, 0, #[], rfl, h, alloc_at w _, Nat.le_refl _, by simp [maxLen], rfl, rfl⟩⟩ (fun _ _ => trivial)

set_option maxHeartbeats 1000000 in
theorem local_walk (A1 A2 A3 : Option Addr) (c1 c2 c3 : Nat) (s1 s2 s3 : ByteArray) (w : World) (hg : BadLies w) (h1 : Byt w A1 c1 s1) (h2 : Byt w A2 c2 s2) (h3 : Byt w A3 c3 s3)
    (hs : s1.size + s2.size + s3.size ≤ 1073741824) :
    Calls Tryd.prog 3 #[.slice A1 s1.size c1, .slice A2 s2.size c2, .slice A3 s3.size c3] w fun e w' => e = .returned (.bool true) ∧ Below w.heap.size w w' := by
  have hlt := hg.lt
  have HG := Lib.hid hg
  have H1 := Lib.hid h1
  have H2 := Lib.hid h2
  have H3 := Lib.hid h3
  clear hg h1 h2 h3
  go_enter Tryd.func3, Tryd.ntmps3
  go_wp2_with fail
  refine (fixed_calls _ HG.out).mono ?_
  rintro e w1 ⟨rfl, hb1⟩
  have HB := Lib.hid (hb1.alloc (o := .cells #[] 5) hb1.size)
  have HR := Lib.hid (R_empty w1 w.heap.size hb1.size)
  clear hb1
  have l0 : (bytesOf ByteArray.empty).length = 0 := rfl
  have l1 := bytesOf_length s1
  have l2 := bytesOf_length s2
  have l3 := bytesOf_length s3
  have b1 : ((bytesOf ByteArray.empty).length + s1.size) * 1 ≤ 140737488355328 := by omega
  have b2 : ((bytesOf ByteArray.empty ++ bytesOf s1).length + s2.size) * 1 ≤ 140737488355328 := by rw [List.length_append]; omega
  have b3 : ((bytesOf ByteArray.empty ++ bytesOf s1 ++ bytesOf s2).length + s3.size) * 1 ≤ 140737488355328 := by rw [List.length_append, List.length_append]; omega
  obtain ⟨S, hSe⟩ : ∃ S, s1 ++ s2 ++ s3 = S := ⟨_, rfl⟩
  have hS : (s1 ++ s2 ++ s3).size = s1.size + s2.size + s3.size := by rw [append_size, append_size]
  have bS : Hid (S.size ≤ 140737488355328) := by show _ ≤ _; rw [← hSe]; omega
  have LS : Hid (bytesOf ByteArray.empty ++ bytesOf s1 ++ bytesOf s2 ++ bytesOf s3 = bytesOf S) := by
    show _ = _
    rw [← hSe, bytesOf_append, bytesOf_append]; rfl
  replace b1 := Lib.hid b1
  replace b2 := Lib.hid b2
  replace b3 := Lib.hid b3
  have HS := Lib.hid hSe
  clear l0 l1 l2 l3 hS hSe
  go_wp2_with (first
    | (at_builtin; refine Kd.R_append_row (w0 := w) (Value.int .u8) 0 (h1 := fun _ => rfl) w.heap.size rfl (.tmp 11) (.tmp 12) 22 5 (.int .u8 0) 1 rfl Tryd.underlying22 infoU8 rfl (by decide) _ (bytesOf ByteArray.empty) (bytesOf s1) A1 s1.size c1 (fun _ => True) rfl rfl (fun _ _ => trivial) HR.out (H1.out.below HB.out).reads' HB.out HB.out.size b1.out ?_; intro v1 wa hR1 hB1 g1 g2; clear g1 g2; have R1 := Lib.hid hR1; have B1 := Lib.hid hB1; clear hR1 hB1 HR HB)
    | (at_builtin; refine Kd.R_append_row (w0 := w) (Value.int .u8) 0 (h1 := fun _ => rfl) w.heap.size rfl (.tmp 13) (.tmp 14) 22 5 (.int .u8 0) 1 rfl Tryd.underlying22 infoU8 rfl (by decide) _ _ (bytesOf s2) A2 s2.size c2 (fun _ => True) rfl rfl (fun _ _ => trivial) R1.out (H2.out.below B1.out).reads' B1.out B1.out.size b2.out ?_; intro v2 wb hR2 hB2 g1 g2; clear g1 g2; have R2 := Lib.hid hR2; have B2 := Lib.hid hB2; clear hR2 hB2 R1 B1)
    | (at_builtin; refine Kd.R_append_row (w0 := w) (Value.int .u8) 0 (h1 := fun _ => rfl) w.heap.size rfl (.tmp 15) (.tmp 16) 22 5 (.int .u8 0) 1 rfl Tryd.underlying22 infoU8 rfl (by decide) _ _ (bytesOf s3) A3 s3.size c3 (fun _ => True) rfl rfl (fun _ _ => trivial) R2.out (H3.out.below B2.out).reads' B2.out B2.out.size b3.out ?_; intro v3 wc hR3 hB3 g1 g2; clear g1 g2; rw [LS.out] at hR3; obtain ⟨A, c, hv, hby⟩ := byt_of_R S hR3 bS.out; subst hv; have BY := Lib.hid hby; have B3 := Lib.hid hB3; clear hby hR3 hB3 R2 B2))
  clear b1 b2 b3 bS LS
  go_loopw [8] (fun i wr => ∃ k : Nat, 3 ≤ k ∧ i = .int .i64 k ∧ k ≤ s2.size + 3 ∧ Below wc.heap.size wc wr) (fun i _ => s2.size + 3 - (intOf i).toNat)
  case atStart => exact ⟨3, by omega, rfl, by omega, Below.refl _ _⟩
  case round =>
    obtain ⟨k, hk3, rfl, hkl, hbw⟩ := hrel
    have HW := Lib.hid (B3.out.trans (hbw.mono B3.out.size))
    have HC := Lib.hid hbw
    clear hbw
    by_cases hc : k + 3 ≤ s2.size
    · have HE : Hid (edgeB S (s1.size + k) = edgeB s2 k) := by show _ = _; rw [← HS.out]; exact edge_mid s1 s2 s3 k (by omega) (by omega)
      go_wp2_with (first
        | (go_at_call 11; (with_reducible refine (edge_calls A2 c2 s2 k _ (HG.out.below HW.out hlt) (H2.out.below HW.out)).mono ?_); rintro e w5 ⟨rfl, h5⟩)
        | (go_at_call 11; (with_reducible refine (edge_calls A c S (s1.size + k) _ ((HG.out.below HW.out hlt).below h5 (by have := HW.out.size; omega)) ((BY.out.below HC.out).below h5)).mono ?_); rw [HE.out]; rintro e w6 ⟨rfl, h6⟩; generalize edgeB s2 k = eb; have H6 := Lib.hid (HC.out.trans ((h5.trans (h6.mono h5.size)).mono HC.out.size)); clear h5 h6))
      go_roundw
      case rel => exact ⟨k + 1, by omega, by go_num, by omega, H6.out⟩
      case measure => simp [intOf]; omega
    · go_wp2_with fail
      go_ret
      exact ⟨rfl, HW.out⟩
end Go.Proofs.YtcnbfpmognijcaaDoor
