/- The walk of PastDoes. -/
import Derived.Test.YtihfkoomimohbaaStrs2
import Derived.Test.YtihfkoomimohbaaQ3
namespace Go.Proofs.Ytihfkoomimohbaa
open Go.RowKit Past17

theorem row_one {w : World} {s : ByteArray} : (w.alloc (.cells #[.string s] 9)).ownsRow w.heap.size 9 1 (.slice (some ⟨w.heap.size, 0, none⟩) 1 1) 1 [.string s] :=
  ⟨rfl, .inr ⟨_, 1, _, rfl, Nat.le_refl _, World.alloc_heap_new w _, Nat.le_refl _, by unfold maxLen; omega, rfl, rfl⟩⟩
set_option maxRecDepth 100000 in
set_option maxHeartbeats 4000000 in
theorem does_walk (most : Int) (A : Option Addr) (c n : Nat) (state : Int) (w : World) (hA : OpsAt w A n) : Calls Try.prog 6 #[.int .i64 most, .slice A n c, .int .i64 state] w fun e w' => e = .returned (.bool true) ∧ Below w.heap.size w w' := by
  obtain ⟨r0, hr0, hr1, hr2, hr3⟩ := Pint.info_parts infoStr
  have HA := Lib.hid hA
  clear hA
  go_enter Try.func6, Try.ntmps6
  go_wp2_with fail
  refine (fixed_calls w).mono ?_
  rintro e w1 ⟨rfl, L1⟩
  replace L1 := Lib.hid L1
  go_wp2_with fail
  by_cases hb : most < 0 ∨ 4096 < most
  · refine (play_bad 0 most A c n w1 hb).mono ?_
    rintro e w2 ⟨rfl, rfl⟩
    by_cases h1 : most < 0
    · clear hb
      go_wp2_with fail
      go_ret
      exact ⟨rfl, L1.out⟩
    · have h2 : 4096 < most := hb.resolve_left h1
      clear hb
      go_wp2_with fail
      go_ret
      exact ⟨rfl, L1.out⟩
  obtain ⟨M, rfl⟩ : ∃ M : Nat, most = M := ⟨most.toNat, by omega⟩
  have hM : M ≤ 4096 := by omega
  clear hb
  refine (play_good 0 M A c n w1 hM (HA.out.below L1.out)).mono ?_
  rintro e w2 ⟨m0, rfl, P2, hm0, L2⟩
  obtain ⟨b, hbb⟩ : ∃ b, b = w1.heap.size := ⟨_, rfl⟩
  rw [← hbb] at P2 L2 ⊢
  replace P2 := Lib.hid P2
  replace L2 := Lib.hid (L1.out.trans (L2.mono (by rw [hbb]; exact L1.out.size)))
  have hwb : Hid (w.heap.size ≤ b) := by rw [hbb]; exact L1.out.size
  clear hbb
  go_wp2_with fail
  refine (Pint.end_calls w2 b b m0 P2.out).mono ?_
  rintro e w3 ⟨rfl, P3, _, L3⟩
  obtain ⟨m1, hm1⟩ : ∃ m1, m1 = endP m0 := ⟨_, rfl⟩
  have hopn : m1.opn = none := by rw [hm1]; exact end_closed m0
  have hmost : m1.most = M := by rw [hm1, most_end, hm0]
  rw [← hm1] at P3
  have hok := P3.ok
  have hlen := hok.len
  rw [hmost] at hlen
  replace P3 := Lib.hid P3
  replace L3 := Lib.hid (L2.out.trans (L3.mono hwb.out))
  have HK := Lib.hid hok
  have HO := Lib.hid hopn
  have HM1 := Lib.hid hmost
  generalize endN m0 = en
  clear hm1 hm0 hok hopn hmost
  go_wp2_with fail
  refine (Pint.Words_calls w3 b b m1 P3.out).mono ?_
  rintro e w4 ⟨vB, vA, rfl, rowB, rowA, _, L4⟩
  obtain ⟨AB, cB, rfl, RB, _⟩ := rowB.reads'
  obtain ⟨AQ, cQ, rfl, RQ, _⟩ := rowA.reads'
  have P4 := Lib.hid (P3.out.below L4)
  have K4 := Lib.hid L4
  replace L4 := Lib.hid (L3.out.trans (L4.mono L3.out.size))
  replace RB := Lib.hid RB
  replace RQ := Lib.hid RQ
  clear rowB rowA
  have hle : ¬ (M : Int) < m1.back.length + m1.again.length := by omega
  have hb2 : m1.back.length ≤ 4096 := by omega
  have ha2 : m1.again.length ≤ 4096 := by omega
  go_wp2_with fail
  refine (Pint.past_now w4 b b m1 P4.out).mono ?_
  rintro e w4' ⟨rfl, rfl⟩
  go_wp2_with fail
  refine (Pint.do_calls w4' b b m1 state ⟨#[110, 101, 119]⟩ P4.out).mono ?_
  rintro e w5 ⟨rfl, P5, S5, L5⟩
  replace P5 := Lib.hid P5
  replace L5 := Lib.hid (L4.out.trans (L5.mono hwb.out))
  have R5 := Lib.hid (RB.out.spares S5)
  clear S5
  go_wp2_with fail
  refine (Pint.Words_calls w5 b b (doP m1 state ⟨#[110, 101, 119]⟩) P5.out).mono ?_
  rintro e w6 ⟨vB, vA, rfl, rowB, rowA, _, L6⟩
  obtain ⟨AX, cX, rfl, RX, _⟩ := rowB.reads'
  obtain ⟨AY, cY, rfl, RY, _⟩ := rowA.reads'
  have P6 := Lib.hid (P5.out.below L6)
  have K6 := Lib.hid L6
  replace L6 := Lib.hid (L5.out.trans (L6.mono L5.out.size))
  replace RX := Lib.hid RX
  replace RY := Lib.hid RY
  clear rowB rowA
  have R6 := Lib.hid (R5.out.below K6.out)
  have hX := do_words HK.out HO.out state ⟨#[110, 101, 119]⟩
  have hY := do_again HO.out state ⟨#[110, 101, 119]⟩
  have hXl : (doP m1 state ⟨#[110, 101, 119]⟩).back.length = min (m1.back.length + 1) M := by
    have := congrArg List.length hX
    rw [wordsP_length, List.length_take, List.length_cons, wordsP_length, HM1.out] at this
    omega
  rw [hX, HM1.out] at RX
  rw [hXl] at RX ⊢
  rw [hY] at RY ⊢
  replace RX := Lib.hid RX
  replace RY := Lib.hid RY
  clear hX hY hXl
  obtain ⟨q, hq⟩ : ∃ q, q = min (m1.back.length + 1) M := ⟨_, rfl⟩
  rw [← hq] at RX ⊢
  have HQ := Lib.hid hq
  clear hq
  rw [List.length_nil] at RY ⊢
  rcases (by have := HQ.out; omega : (M : Int) < 1 + m1.back.length ∨ ¬ (M : Int) < 1 + m1.back.length) with hk | hk
  · skip
    go_wp2_with (at_builtin; refine wpList_append_strs _ rfl (.tmp 58) (.tmp 59) 37 rfl w6.heap.size r0 Try.underlying37 hr0 hr1 hr2 hr3 w6.heap.size 1 1 [.string ⟨#[110, 101, 119]⟩] (by simp [Act.eval]) row_one _ AB m1.back.length cB (wordsP m1.back) (by simp [Act.eval]) (R6.out.below ((Below.refl _ w6).alloc (Nat.le_refl _) _)) (wordsP_length _).symm (by omega) (by simp) ?_; intro g7 cap7 w7 hown7 hgrow7 hg7; have hcap7 := cap_le hown7)
    have L7 : Below w6.heap.size w6 w7 := (((Below.refl _ w6).alloc (Nat.le_refl _) _).grown hgrow7 (by simp) (fun k e => by cases e; exact Nat.le_refl _))
    have RW : StrRow w7 w6.heap.size (.slice (some ⟨g7, 0, none⟩) (1 + m1.back.length) cap7) (⟨#[110, 101, 119]⟩ :: wordsP m1.back) := by
      unfold StrRow
      rw [List.length_cons, wordsP_length, Nat.add_comm m1.back.length 1]
      simpa using hown7
    replace RW := Lib.hid RW
    replace L7 := Lib.hid L7
    clear hown7 hgrow7 hg7
    have hq := HQ.out
    refine (same_words' w7 AX (some ⟨g7, 0, none⟩) cX cap7 _ _ ((⟨#[110, 101, 119]⟩ :: wordsP m1.back).take M) (by rw [List.length_take, List.length_cons, wordsP_length]; omega) (by rw [List.length_take, List.length_cons, wordsP_length]; omega) (RX.out.below L7.out).strs (RW.out.strs.take M) (by rw [List.length_take, List.length_cons, wordsP_length]; omega)).mono ?_
    rintro e w8 ⟨rfl, L8⟩
    have P8 := Lib.hid ((P6.out.below L7.out).below L8)
    have T8 := Lib.hid (L6.out.trans ((L7.out.trans (L8.mono L7.out.size)).mono L6.out.size))
    clear L8 hq
    go_wp2_with fail
    refine (Pint.past_now w8 b b (doP m1 state ⟨#[110, 101, 119]⟩) P8.out).mono ?_
    rintro e w8' ⟨rfl, rfl⟩
    rw [do_st HO.out]
    go_wp2_with fail
    refine (Pint.undo_calls w8' b b (doP m1 state ⟨#[110, 101, 119]⟩) P8.out).mono ?_
    rintro e w9 ⟨rfl, P9, _, L9⟩
    replace P9 := Lib.hid P9
    replace L9 := Lib.hid (T8.out.trans (L9.mono hwb.out))
    by_cases hz : M = 0
    · rw [do_zero HK.out HO.out (HM1.out.trans hz)]
      have z1 : ((M : Int) == 0) = true := by simp [hz]
      have z2 : (M : Int) = 0 := by omega
      unfold Pint.ansT
      clear hz
      go_wp2_with fail
      go_ret
      exact ⟨rfl, L9.out⟩
    · have hp := do_pos HO.out (by rw [HM1.out]; omega) state ⟨#[110, 101, 119]⟩
      rw [hp.1]
      have hp2 := Lib.hid hp.2
      have z1 : ((M : Int) == 0) = false := beq_eq_false_iff_ne.2 (by omega)
      have z2 : ¬ (M : Int) = 0 := by omega
      unfold Pint.ansT
      clear hp
      go_wp2_with fail
      refine (Pint.redo_calls w9 b b (undoP (doP m1 state ⟨#[110, 101, 119]⟩)) P9.out).mono ?_
      rintro e w10 ⟨rfl, _, _, L10⟩
      replace L10 := Lib.hid (L9.out.trans (L10.mono hwb.out))
      rw [hp2.out]
      unfold Pint.ansT
      go_wp2_with fail
      go_ret
      exact ⟨rfl, L10.out⟩
  · skip
    go_wp2_with (at_builtin; refine wpList_append_strs _ rfl (.tmp 58) (.tmp 59) 37 rfl w6.heap.size r0 Try.underlying37 hr0 hr1 hr2 hr3 w6.heap.size 1 1 [.string ⟨#[110, 101, 119]⟩] (by simp [Act.eval]) row_one _ AB m1.back.length cB (wordsP m1.back) (by simp [Act.eval]) (R6.out.below ((Below.refl _ w6).alloc (Nat.le_refl _) _)) (wordsP_length _).symm (by omega) (by simp) ?_; intro g7 cap7 w7 hown7 hgrow7 hg7; have hcap7 := cap_le hown7)
    have L7 : Below w6.heap.size w6 w7 := (((Below.refl _ w6).alloc (Nat.le_refl _) _).grown hgrow7 (by simp) (fun k e => by cases e; exact Nat.le_refl _))
    have RW : StrRow w7 w6.heap.size (.slice (some ⟨g7, 0, none⟩) (1 + m1.back.length) cap7) (⟨#[110, 101, 119]⟩ :: wordsP m1.back) := by
      unfold StrRow
      rw [List.length_cons, wordsP_length, Nat.add_comm m1.back.length 1]
      simpa using hown7
    replace RW := Lib.hid RW
    replace L7 := Lib.hid L7
    clear hown7 hgrow7 hg7
    have hq := HQ.out
    refine (same_words' w7 AX (some ⟨g7, 0, none⟩) cX cap7 _ _ ((⟨#[110, 101, 119]⟩ :: wordsP m1.back).take M) (by rw [List.length_take, List.length_cons, wordsP_length]; omega) (by rw [List.length_take, List.length_cons, wordsP_length]; omega) (RX.out.below L7.out).strs (RW.out.strs.take M) (by rw [List.length_take, List.length_cons, wordsP_length]; omega)).mono ?_
    rintro e w8 ⟨rfl, L8⟩
    have P8 := Lib.hid ((P6.out.below L7.out).below L8)
    have T8 := Lib.hid (L6.out.trans ((L7.out.trans (L8.mono L7.out.size)).mono L6.out.size))
    clear L8 hq
    go_wp2_with fail
    refine (Pint.past_now w8 b b (doP m1 state ⟨#[110, 101, 119]⟩) P8.out).mono ?_
    rintro e w8' ⟨rfl, rfl⟩
    rw [do_st HO.out]
    go_wp2_with fail
    refine (Pint.undo_calls w8' b b (doP m1 state ⟨#[110, 101, 119]⟩) P8.out).mono ?_
    rintro e w9 ⟨rfl, P9, _, L9⟩
    replace P9 := Lib.hid P9
    replace L9 := Lib.hid (T8.out.trans (L9.mono hwb.out))
    by_cases hz : M = 0
    · rw [do_zero HK.out HO.out (HM1.out.trans hz)]
      have z1 : ((M : Int) == 0) = true := by simp [hz]
      have z2 : (M : Int) = 0 := by omega
      unfold Pint.ansT
      clear hz
      go_wp2_with fail
      go_ret
      exact ⟨rfl, L9.out⟩
    · have hp := do_pos HO.out (by rw [HM1.out]; omega) state ⟨#[110, 101, 119]⟩
      rw [hp.1]
      have hp2 := Lib.hid hp.2
      have z1 : ((M : Int) == 0) = false := beq_eq_false_iff_ne.2 (by omega)
      have z2 : ¬ (M : Int) = 0 := by omega
      unfold Pint.ansT
      clear hp
      go_wp2_with fail
      refine (Pint.redo_calls w9 b b (undoP (doP m1 state ⟨#[110, 101, 119]⟩)) P9.out).mono ?_
      rintro e w10 ⟨rfl, _, _, L10⟩
      replace L10 := Lib.hid (L9.out.trans (L10.mono hwb.out))
      rw [hp2.out]
      unfold Pint.ansT
      go_wp2_with fail
      go_ret
      exact ⟨rfl, L10.out⟩
end Go.Proofs.Ytihfkoomimohbaa
