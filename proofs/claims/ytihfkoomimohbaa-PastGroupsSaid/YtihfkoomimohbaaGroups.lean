/- The walk of PastGroups. -/
import Derived.Test.YtihfkoomimohbaaDoes
import Derived.Test.YtihfkoomimohbaaQ4
namespace Go.Proofs.Ytihfkoomimohbaa
open Go.RowKit Past17

set_option maxRecDepth 100000 in
set_option maxHeartbeats 4000000 in
theorem groups_walk (most : Int) (A : Option Addr) (c n : Nat) (As : Option Addr) (cs ns : Nat) (w : World) (hA : OpsAt w A n) (hS : NumsAt w As ns) : Calls Try.prog 7 #[.int .i64 most, .slice A n c, .slice As ns cs] w fun e w' => e = .returned (.bool true) ∧ Below w.heap.size w w' := by
  obtain ⟨r0, hr0, hr1, hr2, hr3⟩ := Pint.info_parts infoStr
  have HS := Lib.hid hS
  have hns := hS.1
  clear hS
  have HA := Lib.hid hA
  clear hA
  go_enter Try.func7, Try.ntmps7
  go_wp2_with fail
  refine (fixed_calls w).mono ?_
  rintro e w1 ⟨rfl, L1⟩
  replace L1 := Lib.hid L1
  go_wp2_with fail
  by_cases hb : most < 0 ∨ 4096 < most
  · refine (play_bad 0 most A c n w1 hb).mono ?_
    rintro e w2 ⟨rfl, rfl⟩
    by_cases h1 : most < 0
    · clear hb
      go_wp2_with fail
      go_ret
      exact ⟨rfl, L1.out⟩
    · have h2 : 4096 < most := hb.resolve_left h1
      clear hb
      go_wp2_with fail
      go_ret
      exact ⟨rfl, L1.out⟩
  obtain ⟨M, rfl⟩ : ∃ M : Nat, most = M := ⟨most.toNat, by omega⟩
  have hM : M ≤ 4096 := by omega
  clear hb
  refine (play_good 0 M A c n w1 hM (HA.out.below L1.out)).mono ?_
  rintro e w2 ⟨m0, rfl, P2, hm0, L2⟩
  obtain ⟨b, hbb⟩ : ∃ b, b = w1.heap.size := ⟨_, rfl⟩
  rw [← hbb] at P2 L2 ⊢
  replace P2 := Lib.hid P2
  replace L2 := Lib.hid (L1.out.trans (L2.mono (by rw [hbb]; exact L1.out.size)))
  have hwb : Hid (w.heap.size ≤ b) := by rw [hbb]; exact L1.out.size
  clear hbb
  go_wp2_with fail
  refine (Pint.end_calls w2 b b m0 P2.out).mono ?_
  rintro e w3 ⟨rfl, P3, _, L3⟩
  obtain ⟨m1, hm1⟩ : ∃ m1, m1 = endP m0 := ⟨_, rfl⟩
  have hopn : m1.opn = none := by rw [hm1]; exact end_closed m0
  have hmost : m1.most = M := by rw [hm1, most_end, hm0]
  rw [← hm1] at P3
  have hok := P3.ok
  have hlen := hok.len
  rw [hmost] at hlen
  replace P3 := Lib.hid P3
  replace L3 := Lib.hid (L2.out.trans (L3.mono hwb.out))
  have HK := Lib.hid hok
  have HO := Lib.hid hopn
  have HM1 := Lib.hid hmost
  generalize endN m0 = en
  clear hm1 hm0 hok hopn hmost
  go_wp2_with fail
  refine (Pint.Words_calls w3 b b m1 P3.out).mono ?_
  rintro e w4 ⟨vB, vA, rfl, rowB, rowA, _, L4⟩
  obtain ⟨AB, cB, rfl, RB, _⟩ := rowB.reads'
  obtain ⟨AQ, cQ, rfl, RQ, _⟩ := rowA.reads'
  have P4 := Lib.hid (P3.out.below L4)
  have K4 := Lib.hid L4
  replace L4 := Lib.hid (L3.out.trans (L4.mono L3.out.size))
  replace RB := Lib.hid RB
  replace RQ := Lib.hid RQ
  clear rowB rowA
  have hb2 : m1.back.length ≤ 4096 := by omega
  have ha2 : m1.again.length ≤ 4096 := by omega
  go_wp2_with fail
  refine (Pint.past_now w4 b b m1 P4.out).mono ?_
  rintro e w4' ⟨rfl, rfl⟩
  go_wp2_with fail
  refine (Pint.begin_calls w4' b b m1 ⟨#[103, 114, 111, 117, 112]⟩ P4.out).mono ?_
  rintro e w5 ⟨rfl, P5, S5, L5⟩
  rw [closed_out HO.out]
  have G5 := Lib.hid (begin_in HO.out ⟨#[103, 114, 111, 117, 112]⟩)
  replace P5 := Lib.hid P5
  replace L5 := Lib.hid (L4.out.trans (L5.mono hwb.out))
  replace S5 := Lib.hid S5
  go_wp2_with fail
  refine (Pint.begin_calls w5 b b _ ⟨#[111, 116, 104, 101, 114]⟩ P5.out).mono ?_
  rintro e w6 ⟨rfl, P6, S6, L6⟩
  rw [G5.out.closed]
  rw [G5.out.begin] at P6
  replace P6 := Lib.hid P6
  replace L6 := Lib.hid (L5.out.trans (L6.mono hwb.out))
  replace S6 := Lib.hid (S5.out.trans S6)
  go_wp2_with fail
  refine (Pint.forget_calls w6 b b _ P6.out).mono ?_
  rintro e w7 ⟨rfl, P7, S7, L7⟩
  rw [G5.out.closed]
  rw [G5.out.forget] at P7
  replace P7 := Lib.hid P7
  replace L7 := Lib.hid (L6.out.trans (L7.mono hwb.out))
  replace S7 := Lib.hid (S6.out.trans S7)
  clear P5 P6 L5 L6 S5 S6
  go_wp2_with fail
  go_loopw [59] (fun i wr => ∃ (k : Nat) (m : Pst Int), i = .int .i64 k ∧ k ≤ ns ∧ k ≤ 201 ∧ Pint.Past wr b b m ∧ InG m1 m ⟨#[103, 114, 111, 117, 112]⟩ (decide (0 < k)) ∧ Pint.Spares w4' wr ∧ Below w.heap.size w wr) (fun i _ => ns - (intOf i).toNat)
  case atStart => exact ⟨0, _, rfl, Nat.zero_le _, Nat.zero_le _, P7.out, G5.out, S7.out, L7.out⟩
  case round =>
    obtain ⟨k, m, rfl, hk, hk2, hP, hG, hS, hL⟩ := hrel
    replace hP := Lib.hid hP
    replace hG := Lib.hid hG
    replace hS := Lib.hid hS
    replace hL := Lib.hid hL
    by_cases hkl : k < ns
    · obtain ⟨g, off, s, rfl, hc⟩ := (HS.out.below hL.out).2 k hkl
      go_wp2_with fail
      refine (Pint.do_calls wr b b m s ⟨#[105, 110, 115, 105, 100, 101]⟩ hP.out).mono ?_
      rintro e x1 ⟨rfl, Q1, T1, U1⟩
      have G1 := Lib.hid (hG.out.doP s ⟨#[105, 110, 115, 105, 100, 101]⟩)
      replace Q1 := Lib.hid Q1
      replace U1 := Lib.hid (hL.out.trans (U1.mono hwb.out))
      replace T1 := Lib.hid (hS.out.trans T1)
      go_wp2_with fail
      refine (Pint.past_now x1 b b _ Q1.out).mono ?_
      rintro e x1' ⟨rfl, rfl⟩
      rw [G1.out.2]
      go_wp2_with fail
      refine (Pint.undo_calls x1' b b _ Q1.out).mono ?_
      rintro e x2 ⟨rfl, Q2, T2, U2⟩
      rw [G1.out.1.undoA]
      rw [G1.out.1.undo] at Q2
      replace Q2 := Lib.hid Q2
      replace U2 := Lib.hid (U1.out.trans (U2.mono hwb.out))
      replace T2 := Lib.hid (T1.out.trans T2)
      unfold Pint.ansT
      by_cases h200 : (200 : Int) < k
      · go_wp2_with fail
        go_ret
        exact ⟨rfl, U2.out⟩
      · go_wp2_with fail
        go_roundw
        case rel => exact ⟨k + 1, _, by go_num, by omega, by omega, Q2.out, by simpa using G1.out.1, T2.out, U2.out⟩
        case measure => simp [intOf]; omega
    · obtain rfl : k = ns := by omega
      go_wp2_with fail
      refine (Pint.end_calls wr b b m hP.out).mono ?_
      rintro e x1 ⟨rfl, Q1, T1, U1⟩
      rw [hG.out.endN]
      replace Q1 := Lib.hid Q1
      replace U1 := Lib.hid (hL.out.trans (U1.mono hwb.out))
      replace T1 := Lib.hid (hS.out.trans T1)
      go_wp2_with fail
      refine (Pint.end_calls x1 b b _ Q1.out).mono ?_
      rintro e x2 ⟨rfl, Q2, T2, U2⟩
      rw [endN_closed (end_closed m)]
      rw [endP_closed (end_closed m)] at Q2
      replace Q2 := Lib.hid Q2
      replace U2 := Lib.hid (U1.out.trans (U2.mono hwb.out))
      replace T2 := Lib.hid (T1.out.trans T2)
      have R5 := Lib.hid (RB.out.spares T2.out)
      have RQ5 := Lib.hid (RQ.out.spares T2.out)
      clear Q1 U1 T1
      go_wp2_with fail
      refine (Pint.Words_calls x2 b b _ Q2.out).mono ?_
      rintro e x3 ⟨vX, vY, rfl, rowX, rowY, _, K3⟩
      have Q3 := Lib.hid (Q2.out.below K3)
      have R6 := Lib.hid (R5.out.below K3)
      have RQ6 := Lib.hid (RQ5.out.below K3)
      replace K3 := Lib.hid (U2.out.trans (K3.mono U2.out.size))
      by_cases h0 : k = 0
      · subst h0
        have he : endP m = m1 := InG.ends (by simpa using hG.out) HO.out
        rw [he] at rowX rowY Q3
        obtain ⟨AX, cX, rfl, RX, _⟩ := rowX.reads'
        obtain ⟨AY, cY, rfl, RY, _⟩ := rowY.reads'
        replace RX := Lib.hid RX
        replace RY := Lib.hid RY
        replace Q3 := Lib.hid Q3.out
        clear rowX rowY he
        go_wp2_with fail
        refine (same_words' x3 AX AB cX cB _ _ (wordsP m1.back) (wordsP_length _).symm (wordsP_length _).symm RX.out.strs R6.out.strs (by rw [wordsP_length]; omega)).mono ?_
        rintro e x4 ⟨rfl, K4'⟩
        replace K4' := Lib.hid K4'
        go_wp2_with fail
        refine (same_words' x4 AY AQ cY cQ _ _ (wordsP m1.again) (wordsP_length _).symm (wordsP_length _).symm (RY.out.below K4'.out).strs (RQ6.out.below K4'.out).strs (by rw [wordsP_length]; omega)).mono ?_
        rintro e x5 ⟨rfl, K5⟩
        have Q5 := Lib.hid ((Q3.out.below K4'.out).below K5)
        have L8 := Lib.hid (K3.out.trans ((K4'.out.trans (K5.mono K4'.out.size)).mono K3.out.size))
        go_wp2_with fail
        refine (Pint.past_now x5 b b m1 Q5.out).mono ?_
        rintro e x6 ⟨rfl, rfl⟩
        go_wp2_with fail
        go_ret
        exact ⟨rfl, L8.out⟩
      · have hGt : InG m1 m ⟨#[103, 114, 111, 117, 112]⟩ true := by have := hG.out; rwa [show decide (0 < k) = true from decide_eq_true (by omega)] at this
        have hX := group_words HK.out hGt
        have hY := group_again hGt
        have n1 : ((k : Int) == 0) = false := beq_eq_false_iff_ne.2 (by omega)
        have n2 : ¬ (k : Int) = 0 := by omega
        obtain ⟨AX, cX, rfl, RX, _⟩ := rowX.reads'
        obtain ⟨AY, cY, rfl, RY, _⟩ := rowY.reads'
        have hXl : (endP m).back.length = min (m1.back.length + 1) M := by
          have := congrArg List.length hX
          rw [wordsP_length, List.length_take, List.length_cons, wordsP_length, HM1.out] at this
          omega
        rw [hX, HM1.out] at RX
        rw [hXl] at RX ⊢
        rw [hY] at RY ⊢
        replace RX := Lib.hid RX
        replace RY := Lib.hid RY
        replace hGt := Lib.hid hGt
        clear hX hY hXl rowX rowY
        obtain ⟨q, hq⟩ : ∃ q, q = min (m1.back.length + 1) M := ⟨_, rfl⟩
        rw [← hq] at RX ⊢
        have HQ := Lib.hid hq
        clear hq
        rw [List.length_nil] at RY ⊢
        rcases (by omega : (M : Int) < 1 + m1.back.length ∨ ¬ (M : Int) < 1 + m1.back.length) with hk3 | hk3
        · go_wp2_with (at_builtin; refine wpList_append_strs _ rfl (.tmp 119) (.tmp 120) 37 rfl x3.heap.size r0 Try.underlying37 hr0 hr1 hr2 hr3 x3.heap.size 1 1 [.string ⟨#[103, 114, 111, 117, 112]⟩] (by simp [Act.eval]) row_one _ AB m1.back.length cB (wordsP m1.back) (by simp [Act.eval]) (R6.out.below ((Below.refl _ x3).alloc (Nat.le_refl _) _)) (wordsP_length _).symm (by omega) (by simp) ?_; intro g7 cap7 w7 hown7 hgrow7 hg7; have hcap7 := cap_le hown7)
          have L7' : Below x3.heap.size x3 w7 := (((Below.refl _ x3).alloc (Nat.le_refl _) _).grown hgrow7 (by simp) (fun k e => by cases e; exact Nat.le_refl _))
          have RW : StrRow w7 x3.heap.size (.slice (some ⟨g7, 0, none⟩) (1 + m1.back.length) cap7) (⟨#[103, 114, 111, 117, 112]⟩ :: wordsP m1.back) := by
            unfold StrRow
            rw [List.length_cons, wordsP_length, Nat.add_comm m1.back.length 1]
            simpa using hown7
          replace RW := Lib.hid RW
          replace L7' := Lib.hid L7'
          clear hown7 hgrow7 hg7
          have hq := HQ.out
          refine (same_words' w7 AX (some ⟨g7, 0, none⟩) cX cap7 _ _ ((⟨#[103, 114, 111, 117, 112]⟩ :: wordsP m1.back).take M) (by rw [List.length_take, List.length_cons, wordsP_length]; omega) (by rw [List.length_take, List.length_cons, wordsP_length]; omega) (RX.out.below L7'.out).strs (RW.out.strs.take M) (by rw [List.length_take, List.length_cons, wordsP_length]; omega)).mono ?_
          rintro e w8 ⟨rfl, L8⟩
          have P8 := Lib.hid ((Q3.out.below L7'.out).below L8)
          have T8 := Lib.hid (K3.out.trans ((L7'.out.trans (L8.mono L7'.out.size)).mono K3.out.size))
          clear L8 hq
          go_wp2_with fail
          refine (Pint.undo_calls w8 b b (endP m) P8.out).mono ?_
          rintro e w9 ⟨rfl, P9, _, L9⟩
          replace L9 := Lib.hid (T8.out.trans (L9.mono hwb.out))
          clear P9
          by_cases hz : M = 0
          · rw [group_zero HK.out hGt.out (HM1.out.trans hz)]
            have z1 : ((M : Int) == 0) = true := by simp [hz]
            have z2 : (M : Int) = 0 := by omega
            unfold Pint.ansT
            clear hz
            go_wp2_with fail
            go_ret
            exact ⟨rfl, L9.out⟩
          · rw [group_pos hGt.out (by rw [HM1.out]; omega)]
            have z1 : ((M : Int) == 0) = false := beq_eq_false_iff_ne.2 (by omega)
            have z2 : ¬ (M : Int) = 0 := by omega
            unfold Pint.ansT
            go_wp2_with fail
            go_ret
            exact ⟨rfl, L9.out⟩
        · go_wp2_with (at_builtin; refine wpList_append_strs _ rfl (.tmp 119) (.tmp 120) 37 rfl x3.heap.size r0 Try.underlying37 hr0 hr1 hr2 hr3 x3.heap.size 1 1 [.string ⟨#[103, 114, 111, 117, 112]⟩] (by simp [Act.eval]) row_one _ AB m1.back.length cB (wordsP m1.back) (by simp [Act.eval]) (R6.out.below ((Below.refl _ x3).alloc (Nat.le_refl _) _)) (wordsP_length _).symm (by omega) (by simp) ?_; intro g7 cap7 w7 hown7 hgrow7 hg7; have hcap7 := cap_le hown7)
          have L7' : Below x3.heap.size x3 w7 := (((Below.refl _ x3).alloc (Nat.le_refl _) _).grown hgrow7 (by simp) (fun k e => by cases e; exact Nat.le_refl _))
          have RW : StrRow w7 x3.heap.size (.slice (some ⟨g7, 0, none⟩) (1 + m1.back.length) cap7) (⟨#[103, 114, 111, 117, 112]⟩ :: wordsP m1.back) := by
            unfold StrRow
            rw [List.length_cons, wordsP_length, Nat.add_comm m1.back.length 1]
            simpa using hown7
          replace RW := Lib.hid RW
          replace L7' := Lib.hid L7'
          clear hown7 hgrow7 hg7
          have hq := HQ.out
          refine (same_words' w7 AX (some ⟨g7, 0, none⟩) cX cap7 _ _ ((⟨#[103, 114, 111, 117, 112]⟩ :: wordsP m1.back).take M) (by rw [List.length_take, List.length_cons, wordsP_length]; omega) (by rw [List.length_take, List.length_cons, wordsP_length]; omega) (RX.out.below L7'.out).strs (RW.out.strs.take M) (by rw [List.length_take, List.length_cons, wordsP_length]; omega)).mono ?_
          rintro e w8 ⟨rfl, L8⟩
          have P8 := Lib.hid ((Q3.out.below L7'.out).below L8)
          have T8 := Lib.hid (K3.out.trans ((L7'.out.trans (L8.mono L7'.out.size)).mono K3.out.size))
          clear L8 hq
          go_wp2_with fail
          refine (Pint.undo_calls w8 b b (endP m) P8.out).mono ?_
          rintro e w9 ⟨rfl, P9, _, L9⟩
          replace L9 := Lib.hid (T8.out.trans (L9.mono hwb.out))
          clear P9
          by_cases hz : M = 0
          · rw [group_zero HK.out hGt.out (HM1.out.trans hz)]
            have z1 : ((M : Int) == 0) = true := by simp [hz]
            have z2 : (M : Int) = 0 := by omega
            unfold Pint.ansT
            clear hz
            go_wp2_with fail
            go_ret
            exact ⟨rfl, L9.out⟩
          · rw [group_pos hGt.out (by rw [HM1.out]; omega)]
            have z1 : ((M : Int) == 0) = false := beq_eq_false_iff_ne.2 (by omega)
            have z2 : ¬ (M : Int) = 0 := by omega
            unfold Pint.ansT
            go_wp2_with fail
            go_ret
            exact ⟨rfl, L9.out⟩
end Go.Proofs.Ytihfkoomimohbaa
