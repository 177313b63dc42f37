/- The walk of PastThere. -/
import Derived.Test.YtihfkoomimohbaaKept
import Derived.Test.YtihfkoomimohbaaQ5
namespace Go.Proofs.Ytihfkoomimohbaa
open Go.RowKit Past17

def stsOf (m : Pst Int) (k : Nat) : List Value := (List.range k).map fun j => Value.int .i64 (undos m j).st
theorem stsOf_succ (m : Pst Int) (k : Nat) : stsOf m (k + 1) = stsOf m k ++ [Value.int .i64 (undos m k).st] := by simp [stsOf, List.range_succ]
set_option maxRecDepth 100000 in
set_option maxHeartbeats 4000000 in
theorem there_walk (most : Int) (A : Option Addr) (c n : Nat) (kk : Int) (w : World) (hA : OpsAt w A n) : Calls Try.prog 5 #[.int .i64 most, .slice A n c, .int .i64 kk] w fun e w' => e = .returned (.bool true) ∧ Below w.heap.size w w' := by
  obtain ⟨r0, hr0, hr1, hr2, hr3⟩ := Pint.info_parts infoInt
  have HA := Lib.hid hA
  clear hA
  go_enter Try.func5, Try.ntmps5
  go_wp2_with fail
  refine (fixed_calls w).mono ?_
  rintro e w1 ⟨rfl, L1⟩
  replace L1 := Lib.hid L1
  go_wp2_with fail
  by_cases hb : most < 0 ∨ 4096 < most
  · refine (play_bad 0 most A c n w1 hb).mono ?_
    rintro e w2 ⟨rfl, rfl⟩
    by_cases h1 : most < 0
    · clear hb
      go_wp2_with fail
      go_ret
      exact ⟨rfl, L1.out⟩
    · have h2 : 4096 < most := hb.resolve_left h1
      clear hb
      go_wp2_with fail
      go_ret
      exact ⟨rfl, L1.out⟩
  obtain ⟨M, rfl⟩ : ∃ M : Nat, most = M := ⟨most.toNat, by omega⟩
  have hM : M ≤ 4096 := by omega
  clear hb
  refine (play_good 0 M A c n w1 hM (HA.out.below L1.out)).mono ?_
  rintro e w2 ⟨m0, rfl, P2, hm0, L2⟩
  obtain ⟨b, hbb⟩ : ∃ b, b = w1.heap.size := ⟨_, rfl⟩
  rw [← hbb] at P2 L2 ⊢
  replace P2 := Lib.hid P2
  replace L2 := Lib.hid (L1.out.trans (L2.mono (by rw [hbb]; exact L1.out.size)))
  have hwb : Hid (w.heap.size ≤ b) := by rw [hbb]; exact L1.out.size
  clear hbb
  go_wp2_with fail
  refine (Pint.end_calls w2 b b m0 P2.out).mono ?_
  rintro e w3 ⟨rfl, P3, _, L3⟩
  obtain ⟨m1, hm1⟩ : ∃ m1, m1 = endP m0 := ⟨_, rfl⟩
  have hopn : m1.opn = none := by rw [hm1]; exact end_closed m0
  have hmost : m1.most = M := by rw [hm1, most_end, hm0]
  rw [← hm1] at P3
  have hok := P3.ok
  have hlen := hok.len
  rw [hmost] at hlen
  replace P3 := Lib.hid P3
  replace L3 := Lib.hid (L2.out.trans (L3.mono hwb.out))
  have HK := Lib.hid hok
  have HO := Lib.hid hopn
  have HM1 := Lib.hid hmost
  generalize endN m0 = en
  clear hm1 hm0 hok hopn hmost
  go_wp2_with fail
  refine (Pint.Words_calls w3 b b m1 P3.out).mono ?_
  rintro e w4 ⟨vB, vA, rfl, rowB, rowA, _, L4⟩
  obtain ⟨AB, cB, rfl, RB, _⟩ := rowB.reads'
  obtain ⟨AQ, cQ, rfl, RQ, _⟩ := rowA.reads'
  have P4 := Lib.hid (P3.out.below L4)
  have K4 := Lib.hid L4
  replace L4 := Lib.hid (L3.out.trans (L4.mono L3.out.size))
  replace RB := Lib.hid RB
  replace RQ := Lib.hid RQ
  clear rowB rowA
  have hb2 : m1.back.length ≤ 4096 := by omega
  have ha2 : m1.again.length ≤ 4096 := by omega
  go_wp2_with fail
  refine (Pint.past_now w4 b b m1 P4.out).mono ?_
  rintro e w4' ⟨rfl, rfl⟩
  go_upto_region 9 with fail
  go_cut [2] from 44 to 48 (fun k2 wx => ∃ K : Nat, k2 = .int .i64 K ∧ K ≤ m1.back.length ∧ wx = w4')
  case first =>
    by_cases q1 : kk < 0
    · go_wp2_with fail
      go_meet
      case rel => exact ⟨0, rfl, Nat.zero_le _, rfl⟩
    · obtain ⟨kn, rfl⟩ : ∃ kn : Nat, kk = kn := ⟨kk.toNat, by omega⟩
      by_cases q2 : (kn : Int) < m1.back.length
      · go_wp2_with fail
        go_meet
        case rel => exact ⟨kn, rfl, by omega, rfl⟩
      · by_cases q3 : (m1.back.length : Int) < kn
        · go_wp2_with fail
          go_meet
          case rel => exact ⟨m1.back.length, rfl, Nat.le_refl _, rfl⟩
        · obtain rfl : kn = m1.back.length := by omega
          clear q1 q2 q3
          have q1 : ¬ (m1.back.length : Int) < 0 := by omega
          have q2 : ¬ (m1.back.length : Int) < m1.back.length := by omega
          go_wp2_with fail
          go_meet
          case rel => exact ⟨m1.back.length, rfl, Nat.le_refl _, rfl⟩
  case rest =>
    obtain ⟨K, rfl, hK, rfl⟩ := hcut
    rename_i w4
    go_wp2_with fail
    go_loopw [11, 12] (fun v i wr => ∃ k : Nat, i = .int .i64 k ∧ k ≤ K ∧ Pint.Past wr b b (undos m1 k) ∧ StrRow wr w3.heap.size (.slice AB m1.back.length cB) (wordsP m1.back) ∧ StrRow wr w3.heap.size (.slice AQ m1.again.length cQ) (wordsP m1.again) ∧ wr.ownsRow w3.heap.size 3 1 v k (stsOf m1 k) ∧ w3.heap.size ≤ wr.heap.size ∧ Below w.heap.size w wr) (fun _ i _ => K - (intOf i).toNat)
    case atStart => exact ⟨0, rfl, Nat.zero_le _, P4.out, RB.out, RQ.out, World.ownsRow_nil _ _ _ _, K4.out.size, L4.out⟩
    case round =>
      obtain ⟨k, rfl, hk, hP, hB, hQ, hI, hz, hL⟩ := hrel
      replace hP := Lib.hid hP
      replace hB := Lib.hid hB
      replace hQ := Lib.hid hQ
      replace hI := Lib.hid hI
      replace hL := Lib.hid hL
      by_cases hkl : k < K
      · obtain ⟨x, s1, s2, s3, s4⟩ := undos_step HO.out k (by omega)
        have X1 := Lib.hid s1
        have X2 := Lib.hid s2
        clear s1 s2 s3 s4
        go_wp2_with fail
        refine (Pint.past_now wr b b _ hP.out).mono ?_
        rintro e x0 ⟨rfl, rfl⟩
        go_wp2_with (at_builtin; refine wpList_append_own _ rfl (.tmp 54) (.tmp 57) 41 rfl w3.heap.size 3 r0 (.int .i64 0) 1 8 Try.underlying41 hr0 hr1 hr2 hr3 rfl (by decide) _ _ _ rfl (hI.out.alloc _) ⟨x0.heap.size, 0, none⟩ 1 1 [.int .i64 (undos m1 k).st] rfl rfl (World.news_of_block (World.alloc_heap_new x0 _)) (by simp [Value.oneCell']) (by unfold maxLen; omega) (by omega) (by simp; omega) ?_; intro v' w5 hown' hgrow _)
        have B5 : But 3 x0 w5 := (But.of_below ((Below.refl _ x0).alloc (Nat.le_refl _) _)).trans (But.of_grown hgrow (fun g e => by obtain ⟨_, cs, h⟩ := Pint.ownsRow_type (hI.out.alloc (.cells #[.int .i64 (undos m1 k).st] 3)) g e; exact ⟨cs, _, h⟩))
        have L5 : Below w.heap.size w w5 := (hL.out.alloc hL.out.size _).grown hgrow (by have := hL.out.size; simp; omega) (fun g e => by have := (Pint.ownsRow_type hI.out g e).1; have := L3.out.size; omega)
        have z5 : x0.heap.size ≤ w5.heap.size := by have := hgrow.size; simp at this; omega
        have P5 := Lib.hid (but_past B5 (by decide) (by decide) (by decide) hP.out)
        have hB5 := Lib.hid (show StrRow w5 _ _ _ from but_row B5 (by decide) hB.out)
        have hQ5 := Lib.hid (show StrRow w5 _ _ _ from but_row B5 (by decide) hQ.out)
        have hI5 : Hid (w5.ownsRow w3.heap.size 3 1 v' (k + 1) (stsOf m1 (k + 1))) := by rw [stsOf_succ]; exact hown'
        replace L5 := Lib.hid L5
        clear hown' hgrow B5
        refine (Pint.undo_calls w5 b b _ P5.out).mono ?_
        rintro e w6 ⟨rfl, P6, S6, L6⟩
        rw [X1.out]
        unfold Pint.ansT
        replace P6 : Hid (Pint.Past w6 b b (undos m1 (k + 1))) := P6
        have hB6 := Lib.hid (hB5.out.spares S6)
        have hQ6 := Lib.hid (hQ5.out.spares S6)
        have hI6 := Lib.hid (spares_row S6 (by decide) (by decide) (by decide) hI5.out)
        have z6 := L6.size
        replace L6 := Lib.hid (L5.out.trans (L6.mono hwb.out))
        obtain ⟨gB, hgB, hc⟩ := hB6.out.strs k x.2 X2.out
        have hkb : k < m1.back.length := by omega
        clear S6 P5 hB5 hQ5 hI5 L5
        subst hgB
        go_wp2_with fail
        go_roundw
        case rel => exact ⟨k + 1, by go_num, by omega, P6.out, hB6.out, hQ6.out, hI6.out, by omega, L6.out⟩
        case measure => simp [intOf]; omega
      · obtain rfl : k = K := by omega
        obtain ⟨wo, hwo⟩ : ∃ wo, wo = wr := ⟨_, rfl⟩
        subst hwo
        go_wp2_with fail
        go_loopw [16] (fun i wr => ∃ j : Nat, i = .int .i64 ((j : Int) - 1) ∧ j ≤ k ∧ Pint.Past wr b b (undos m1 j) ∧ StrRow wr w3.heap.size (.slice AB m1.back.length cB) (wordsP m1.back) ∧ StrRow wr w3.heap.size (.slice AQ m1.again.length cQ) (wordsP m1.again) ∧ wr.ownsRow w3.heap.size 3 1 u11 k (stsOf m1 k) ∧ Below w.heap.size w wr) (fun i _ => (intOf i + 1).toNat)
        case atStart => exact ⟨k, rfl, Nat.le_refl _, hP.out, hB.out, hQ.out, hI.out, hL.out⟩
        case round =>
          obtain ⟨j, rfl, hj, yP, yB, yQ, yI, yL⟩ := hrel
          replace yP := Lib.hid yP
          replace yB := Lib.hid yB
          replace yQ := Lib.hid yQ
          replace yI := Lib.hid yI
          replace yL := Lib.hid yL
          by_cases hj0 : 0 < j
          · obtain ⟨q, rfl⟩ : ∃ q, j = q + 1 := ⟨j - 1, by omega⟩
            obtain ⟨x, s1, s2, s3, s4⟩ := undos_step HO.out q (by omega)
            have X2 := Lib.hid s2
            have X3 := Lib.hid s3
            have X4 := Lib.hid s4
            clear s1 s2 s3 s4
            rw [show (((q + 1 : Nat) : Int) - 1) = q by omega]
            go_wp2_with fail
            refine (Pint.redo_calls wr b b _ yP.out).mono ?_
            rintro e w6 ⟨rfl, P6, S6, L6⟩
            rw [X3.out]
            rw [X4.out] at P6
            unfold Pint.ansT
            replace P6 := Lib.hid P6
            have hB6 := Lib.hid (yB.out.spares S6)
            have hQ6 := Lib.hid (yQ.out.spares S6)
            have hI6 := spares_row S6 (by decide) (by decide) (by decide) yI.out
            replace L6 := Lib.hid (yL.out.trans (L6.mono hwb.out))
            obtain ⟨gB, hgB, hc⟩ := hB6.out.strs q x.2 X2.out
            have hkb : q < m1.back.length := by omega
            have hqk : q < k := by omega
            obtain ⟨gI, cI, rfl, _, _⟩ := hI6.form (by omega)
            have hc2 := hI6.cells (g := gI) rfl q (.int .i64 (undos m1 q).st) (by unfold stsOf; rw [List.getElem?_map, List.getElem?_range hqk]; rfl)
            rw [add_zero_none] at hc2
            replace hI6 := Lib.hid hI6
            clear S6
            subst hgB
            go_wp2_with fail
            refine (Pint.past_now w6 b b _ P6.out).mono ?_
            rintro e w7 ⟨rfl, rfl⟩
            go_wp2_with fail
            go_roundw
            case rel => exact ⟨q, rfl, by omega, P6.out, hB6.out, hQ6.out, hI6.out, L6.out⟩
            case measure => simp [intOf]
          · obtain rfl : j = 0 := by omega
            replace yP : Hid (Pint.Past wr b b m1) := yP
            go_wp2_with fail
            refine (Pint.Words_calls wr b b m1 yP.out).mono ?_
            rintro e x3 ⟨vX, vY, rfl, rowX, rowY, _, K3⟩
            have Q3 := Lib.hid (yP.out.below K3)
            have R6 := Lib.hid (yB.out.below K3)
            have RQ6 := Lib.hid (yQ.out.below K3)
            replace K3 := Lib.hid (yL.out.trans (K3.mono yL.out.size))
            obtain ⟨AX, cX, rfl, RX, _⟩ := rowX.reads'
            obtain ⟨AY, cY, rfl, RY, _⟩ := rowY.reads'
            replace RX := Lib.hid RX
            replace RY := Lib.hid RY
            clear rowX rowY
            go_wp2_with fail
            refine (Pint.past_now x3 b b m1 Q3.out).mono ?_
            rintro e x4 ⟨rfl, rfl⟩
            go_wp2_with fail
            refine (same_words' x4 AX AB cX cB _ _ (wordsP m1.back) (wordsP_length _).symm (wordsP_length _).symm RX.out.strs R6.out.strs (by rw [wordsP_length]; omega)).mono ?_
            rintro e x5 ⟨rfl, K5⟩
            replace K5 := Lib.hid K5
            go_wp2_with fail
            refine (same_words' x5 AY AQ cY cQ _ _ (wordsP m1.again) (wordsP_length _).symm (wordsP_length _).symm (RY.out.below K5.out).strs (RQ6.out.below K5.out).strs (by rw [wordsP_length]; omega)).mono ?_
            rintro e x6 ⟨rfl, K6⟩
            have L8 := Lib.hid (K3.out.trans ((K5.out.trans (K6.mono K5.out.size)).mono K3.out.size))
            go_wp2_with fail
            go_ret
            exact ⟨rfl, L8.out⟩
end Go.Proofs.Ytihfkoomimohbaa
