/- The statements' plays (int). -/
import Derived.Test.YtihfkoomimohbaaStepIAll
import Derived.Test.YtihfkoomimohbaaStrs2
import Derived.Deep.RegionHeld3
import Derived.Deep.DrawnRows
namespace Go.Proofs.Ytihfkoomimohbaa
open Go.RowKit Past17

set_option maxRecDepth 100000 in
set_option maxHeartbeats 4000000 in
theorem plays_int (first : Int) (most : Nat) (A : Option Addr) (c n : Nat) (w : World) (h : most ≤ 4096) (hA : OpsAt w A n) :
    Calls Try.prog 11 #[.int .i64 first, .int .i64 most, .slice A n c, .func (.func 12) #[] #[]] w fun e w' => e = .returned (.bool true) ∧ Below w.heap.size w w' := by
  have HA := Lib.hid hA
  have hn := hA.1
  clear hA
  go_enter Try.func11, Try.ntmps11
  go_wp2_with fail
  refine (of_int first w).mono ?_
  rintro e w1 ⟨rfl, hw1⟩
  subst hw1
  go_wp2_with fail
  refine (Pint.new_good first most w1 h).mono ?_
  rintro e w2 ⟨rfl, hw2⟩
  obtain ⟨b, hb⟩ : ∃ b, b = w1.heap.size := ⟨_, rfl⟩
  have P2 := Lib.hid (show Pint.Past w2 b b (newP first most) by rw [hw2, hb]; exact Pint.past_new first most w1 _ (Nat.le_refl _) h)
  have L2 := Lib.hid (show Below w1.heap.size w1 w2 by rw [hw2]; exact (Below.refl _ w1).alloc (Nat.le_refl _) _)
  have hwb := Lib.hid (show w1.heap.size ≤ b by omega)
  rw [← hb]
  clear hw2 hb
  go_wp2_with fail
  refine (ref_new_good first most w2 h).mono ?_
  rintro e w3 ⟨vm, rfl, R3, L3⟩
  obtain ⟨vb, va, word, frm, done, rfl, h3⟩ := R3
  obtain ⟨A1, c1, rfl⟩ := h3.rb.form
  obtain ⟨A2, c2, rfl⟩ := h3.ra.form
  obtain ⟨m, hm⟩ : ∃ m, m = newP first most := ⟨_, rfl⟩
  rw [← hm] at h3 P2 ⊢
  unfold rv
  obtain ⟨W4, hW4⟩ : ∃ W4, W4 = w3.alloc (.cells #[.bool false, .int .i64 m.st, .int .i64 m.most, .slice A1 m.back.length c1, .slice A2 m.again.length c2, .bool m.opn.isSome, .string word, .int .i64 frm, .bool done] 64) := ⟨_, rfl⟩
  have B4 : Below w3.heap.size w3 W4 := by rw [hW4]; exact (Below.refl _ w3).alloc (Nat.le_refl _) _
  obtain ⟨T, hT⟩ : ∃ T, T = w3.heap.size := ⟨_, rfl⟩
  have t4 : Hid (W4.heap[T]? = some (.cells #[.bool false, .int .i64 m.st, .int .i64 m.most, .slice A1 m.back.length c1, .slice A2 m.again.length c2, .bool m.opn.isSome, .string word, .int .i64 frm, .bool done] 64 (0, 0))) := by rw [hT, hW4]; exact Lib.hid (World.alloc_heap_new w3 _)
  have P4 := Lib.hid ((P2.out.below L3).below B4)
  have R4 := Lib.hid (h3.stays (Stays.of_below B4))
  have hTb := Lib.hid (show w1.heap.size ≤ T by rw [hT]; exact Nat.le_trans L2.out.size L3.size)
  have L4 := Lib.hid ((L2.out.trans (L3.mono L2.out.size)).trans (B4.mono (Nat.le_trans L2.out.size L3.size)))
  have HW4 := Lib.hid hW4
  have HT := Lib.hid hT
  have hlTb := Lib.hid (show b < T by have := (P2.out.below L3).size.2; omega)
  clear h3 L3 B4 hm hW4 hT P2 L2
  go_wp2_with fail
  rw [← HT.out, ← HW4.out]
  go_loopw [46] (fun i wr => ∃ (k : Nat) (m : Pst Int) (A1 : Option Addr) (c1 : Nat) (A2 : Option Addr) (c2 : Nat) (word : ByteArray) (frm : Int) (done : Bool), i = .int .i64 k ∧ k ≤ n ∧ Pint.Past wr b b m ∧ wr.heap[T]? = some (.cells #[.bool false, .int .i64 m.st, .int .i64 m.most, .slice A1 m.back.length c1, .slice A2 m.again.length c2, .bool m.opn.isSome, .string word, .int .i64 frm, .bool done] 64 (0, 0)) ∧ RP wr m (.slice A1 m.back.length c1) (.slice A2 m.again.length c2) word frm done ∧ Below w1.heap.size w1 wr) (fun i _ => n - (intOf i).toNat)
  case atStart => exact ⟨0, m, A1, c1, A2, c2, word, frm, done, rfl, Nat.zero_le _, P4.out, t4.out, R4.out, L4.out⟩
  case round =>
    clear P4 t4 R4 L4
    obtain ⟨k, m, A1, c1, A2, c2, word, frm, done, rfl, hk, hP, ht, hR, hbw⟩ := hrel
    have HW := Lib.hid hbw
    have HP := Lib.hid hP
    have HTc := Lib.hid ht
    have HR := Lib.hid hR
    by_cases hkl : k < n
    · obtain ⟨g, off, kd, s, wd, rfl, k0, k1, k2⟩ := (HA.out.below HW.out).2 k hkl
      obtain ⟨Wo, hWo⟩ : ∃ x, x = wr.alloc (.cells #[.int .i64 kd, .int .i64 s, .string wd] 68) := ⟨_, rfl⟩
      have hbo : Below wr.heap.size wr Wo := by rw [hWo]; exact (Below.refl _ wr).alloc (Nat.le_refl _) _
      have hto := (hbo.block _ (Array.getElem?_eq_some_iff.1 ht).1).trans ht
      have hoo : Wo.heap[wr.heap.size]? = some (.cells #[.int .i64 kd, .int .i64 s, .string wd] 68 (0, 0)) := by rw [hWo]; exact World.alloc_heap_new wr _
      have PO := Lib.hid (HP.out.below hbo)
      have LO := Lib.hid (HW.out.trans (hbo.mono HW.out.size))
      have RO := Lib.hid (HR.out.stays (Stays.of_below hbo))
      have TO := Lib.hid hto
      have HWo := Lib.hid hWo
      obtain ⟨⟨p0, p1, p2, p3, p4, p5, p6, p7, p8⟩, pf⟩ := nine ht
      have hsz := (Array.getElem?_eq_some_iff.1 ht).1
      have ne1 : ¬ T = wr.heap.size := by omega
      have ne2 : ¬ wr.heap.size = T := by omega
      clear hbw hP ht hR hbo hto hoo hWo
      go_wp2_with fail
      rw [← HWo.out]
      refine (step_any_int Wo b b m A1 c1 A2 c2 m.opn.isSome word frm done s wd kd PO.out ⟨_, _, word, frm, done, rfl, RO.out⟩).mono ?_
      rintro e w5 ⟨vm', m', rfl, P5, R5, S5, L5⟩
      obtain ⟨vb, va, word', frm', done', rfl, h5⟩ := R5
      obtain ⟨A3, c3, rfl⟩ := h5.rb.form
      obtain ⟨A4, c4, rfl⟩ := h5.ra.form
      unfold rv
      have t5 := S5 _ _ _ _ TO.out (by decide) (by decide) (by decide)
      clear p0 p1 p2 p3 p4 p5 p6 p7 p8 pf
      obtain ⟨⟨p0, p1, p2, p3, p4, p5, p6, p7, p8⟩, pf⟩ := nine t5
      have htz := (Array.getElem?_eq_some_iff.1 t5).1
      have ne3 : ¬ T = w5.heap.size := by omega
      have ne4 : ¬ w5.heap.size = T := by omega
      have T5 := Lib.hid t5
      go_wp2_with fail
      obtain ⟨W7, hW7, f1, f2, f3, f4, _⟩ := end_nine w5 T w1.heap.size hTb.out _ _ _ _ _ _ _ _ _ T5.out (.bool false) (.int .i64 m'.st) (.int .i64 m'.most) (.slice A3 m'.back.length c3) (.slice A4 m'.again.length c4) (.bool m'.opn.isSome) (.string word') (.int .i64 frm') (.bool done')
      rw [← hW7]
      clear hW7
      obtain ⟨W8, hW8⟩ : ∃ W8, W8 = W7.alloc (.cells #[.bool false, .int .i64 m'.st, .int .i64 m'.most, .slice A3 m'.back.length c3, .slice A4 m'.again.length c4, .bool m'.opn.isSome, .string word', .int .i64 frm', .bool done'] 64) := ⟨_, rfl⟩
      rw [← hW8]
      have B8 : Below W7.heap.size W7 W8 := by rw [hW8]; exact (Below.refl _ W7).alloc (Nat.le_refl _) _
      have P8 := Lib.hid ((P5.others (fun g cs t h h1 _ _ => f4 g cs t h h1)).below B8)
      have R8 := Lib.hid ((h5.stays f3).stays (Stays.of_below B8))
      have L8 := Lib.hid (((LO.out.trans (L5.mono hwb.out)).trans f2).trans (B8.mono (Nat.le_trans LO.out.size (Nat.le_trans L5.size f2.size))))
      have t8 := (B8.block _ (Array.getElem?_eq_some_iff.1 f1).1).trans f1
      have T8 := Lib.hid t8
      clear p0 p1 p2 p3 p4 p5 p6 p7 p8 pf f1 f2 f3 f4 hW8 B8 P5 h5 t5 L5 S5 t8 hTb ne1 ne2 ne3 ne4 hsz htz
      refine (of_int m'.st W8).mono ?_
      rintro e w8 ⟨rfl, hw8⟩
      subst w8
      go_wp2_with fail
      refine (Pint.Words_calls W8 b b _ P8.out).mono ?_
      rintro e w9 ⟨vB, vA, rfl, rowB, rowA, _, L9⟩
      obtain ⟨AB, cB, rfl, RB, _⟩ := rowB.reads'
      obtain ⟨AA, cA, rfl, RA, _⟩ := rowA.reads'
      have P9 := Lib.hid ((P8.out.below L9))
      have R9 : Hid (RP w9 m' (.slice A3 m'.back.length c3) (.slice A4 m'.again.length c4) word' frm' done') := Lib.hid ((R8.out.stays (Stays.of_below L9)).stays (w' := w9) (fun _ _ e => e))
      have t9 : w9.heap[T]? = _ := (L9.block _ (Array.getElem?_eq_some_iff.1 T8.out).1).trans T8.out
      have H9 := Lib.hid ((L8.out.trans (L9.mono L8.out.size)))
      have RB9 := Lib.hid (RB)
      have RA9 := Lib.hid (RA)
      have hl1 : m'.back.length ≤ 4096 := by have := R9.out.ok.len; have := R9.out.ok.mx; omega
      have hl2 : m'.again.length ≤ 4096 := by have := R9.out.ok.len; have := R9.out.ok.mx; omega
      have hw1 := wordsP_length m'.back
      have hw2 := wordsP_length m'.again
      have HL1 := Lib.hid hw1
      have HL2 := Lib.hid hw2
      have p3 := Pint.of_cells t9 3 _ rfl
      have p4 := Pint.of_cells t9 4 _ rfl
      have T9 := Lib.hid t9
      clear rowB rowA RB RA t9 L9 hw1 hw2
      go_wp2_with
        (first
          | (go_at_call 18; (with_reducible refine (Pint.past_now _ b b m' P9.out).mono ?_); rintro e w10 ⟨rfl, rfl⟩)
          | (go_at_call 31; (with_reducible refine (ref_Words _ (.slice A3 m'.back.length c3) m'.back R9.out.rb hl1).mono ?_); rintro e w11 ⟨vX, rfl, RX, L11⟩; obtain ⟨AX, cX, rfl, RX, _⟩ := StrRow.reads' RX; have RX11 := Lib.hid RX; have RB11 := Lib.hid (RB9.out.below L11); have RA11 := Lib.hid (RA9.out.below L11); have P11 := Lib.hid (P9.out.below L11); have R11 := Lib.hid (R9.out.stays (Stays.of_below L11)); have H11 := Lib.hid (H9.out.trans (L11.mono H9.out.size)); have t11 := (L11.block _ (Array.getElem?_eq_some_iff.1 T9.out).1).trans T9.out; have T11 := Lib.hid t11; clear p3 p4; have p3 := Pint.of_cells t11 3 _ rfl; have p4 := Pint.of_cells t11 4 _ rfl; clear RX L11 t11)
          | (go_at_call 21; (with_reducible refine (same_words' _ AB AX cB cX m'.back.length m'.back.length (wordsP m'.back) HL1.out.symm HL1.out.symm RB11.out.strs RX11.out.strs (by rw [HL1.out]; omega)).mono ?_); rintro e w12 ⟨rfl, L12⟩; have RA12 := Lib.hid (RA11.out.below L12); have P12 := Lib.hid (P11.out.below L12); have R12 := Lib.hid (R11.out.stays (Stays.of_below L12)); have H12 := Lib.hid (H11.out.trans (L12.mono H11.out.size)); have t12 := (L12.block _ (Array.getElem?_eq_some_iff.1 T11.out).1).trans T11.out; have T12 := Lib.hid t12; clear p3 p4; have p3 := Pint.of_cells t12 3 _ rfl; have p4 := Pint.of_cells t12 4 _ rfl; clear L12 t12)
          | (go_at_call 31; (with_reducible refine (ref_Words _ (.slice A4 m'.again.length c4) m'.again R12.out.ra hl2).mono ?_); rintro e w13 ⟨vY, rfl, RY, L13⟩; obtain ⟨AY, cY, rfl, RY, _⟩ := StrRow.reads' RY; have RY13 := Lib.hid RY; have RA13 := Lib.hid (RA12.out.below L13); have P13 := Lib.hid (P12.out.below L13); have R13 := Lib.hid (R12.out.stays (Stays.of_below L13)); have H13 := Lib.hid (H12.out.trans (L13.mono H12.out.size)); have t13 := (L13.block _ (Array.getElem?_eq_some_iff.1 T12.out).1).trans T12.out; have T13 := Lib.hid t13; clear p3 p4; have p3 := Pint.of_cells t13 3 _ rfl; have p4 := Pint.of_cells t13 4 _ rfl; clear RY L13 t13)
          | (go_at_call 21; (with_reducible refine (same_words' _ AA AY cA cY m'.again.length m'.again.length (wordsP m'.again) HL2.out.symm HL2.out.symm RA13.out.strs RY13.out.strs (by rw [HL2.out]; omega)).mono ?_); rintro e w14 ⟨rfl, L14⟩; have P14 := Lib.hid (P13.out.below L14); have R14 := Lib.hid (R13.out.stays (Stays.of_below L14)); have H14 := Lib.hid (H13.out.trans (L14.mono H13.out.size)); have t14 := (L14.block _ (Array.getElem?_eq_some_iff.1 T13.out).1).trans T13.out; have T14 := Lib.hid t14; clear p3 p4; have p3 := Pint.of_cells t14 3 _ rfl; have p4 := Pint.of_cells t14 4 _ rfl; clear L14 t14))
      go_roundw
      case rel => exact ⟨k + 1, m', A3, c3, A4, c4, word', frm', done', by go_num, by omega, P14.out, T14.out, R14.out, H14.out⟩
      case measure => simp [intOf]; omega
    · obtain rfl : k = n := by omega
      clear hbw hP ht hR
      go_wp2_with fail
      go_ret
      exact ⟨rfl, HW.out⟩
end Go.Proofs.Ytihfkoomimohbaa
