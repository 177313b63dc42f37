/- The statements' plays on no past (pair). -/
import Derived.Test.YtihfkoomimohbaaStepPAll
import Derived.Test.YtihfkoomimohbaaStrs2
import Derived.Deep.RegionHeld3
import Derived.Deep.DrawnRows
namespace Go.Proofs.Ytihfkoomimohbaa
open Go.RowKit Past17

theorem same_nil_pair (w : World) (A : Option Addr) (c : Nat) : Calls Try.prog 21 #[.slice none 0 0, .slice A 0 c] w fun e w' => e = .returned (.bool true) ∧ Below w.heap.size w w' :=
  same_words' w none A 0 c 0 0 [] rfl rfl (fun j s hj => by cases hj) (fun j s hj => by cases hj) (Nat.zero_le _)

set_option maxRecDepth 100000 in
set_option maxHeartbeats 4000000 in
theorem playsbad_pair (first most : Int) (A : Option Addr) (c n : Nat) (w : World) (h : most < 0 ∨ 4096 < most) (hA : OpsAt w A n) :
    Calls Try.prog 13 #[.int .i64 first, .int .i64 most, .slice A n c, .func (.func 14) #[] #[]] w fun e w' => e = .returned (.bool true) ∧ Below w.heap.size w w' := by
  have HA := Lib.hid hA
  have hn := hA.1
  have HH := Lib.hid h
  clear hA h
  go_enter Try.func13, Try.ntmps13
  go_wp2_with fail
  refine (of_pair first w).mono ?_
  rintro e w1 ⟨rfl, L1⟩
  go_wp2_with fail
  refine (Ppair.new_bad (first, ⟨#[115]⟩) most w1 HH.out).mono ?_
  rintro e w2 ⟨rfl, L2⟩
  go_wp2_with fail
  refine (ref_new_bad first most w2 HH.out).mono ?_
  rintro e w3 ⟨rfl, L3⟩
  have L3 := Lib.hid ((L1.trans (L2.mono L1.size)).trans (L3.mono (Nat.le_trans L1.size L2.size)))
  clear L1 L2
  unfold bad
  obtain ⟨W4, hW4⟩ : ∃ W4, W4 = w3.alloc (.cells #[.bool true, .int .i64 0, .int .i64 0, .slice none 0 0, .slice none 0 0, .bool false, .string ⟨#[]⟩, .int .i64 0, .bool false] 64) := ⟨_, rfl⟩
  have B4 : Below w3.heap.size w3 W4 := by rw [hW4]; exact (Below.refl _ w3).alloc (Nat.le_refl _) _
  obtain ⟨T, hT⟩ : ∃ T, T = w3.heap.size := ⟨_, rfl⟩
  have t4 : Hid (W4.heap[T]? = some (.cells #[.bool true, .int .i64 0, .int .i64 0, .slice none 0 0, .slice none 0 0, .bool false, .string ⟨#[]⟩, .int .i64 0, .bool false] 64 (0, 0))) := by rw [hT, hW4]; exact Lib.hid (World.alloc_heap_new w3 _)
  have hTb := Lib.hid (show w.heap.size ≤ T by rw [hT]; exact L3.out.size)
  have L4 := Lib.hid (L3.out.trans (B4.mono L3.out.size))
  have HW4 := Lib.hid hW4
  have HT := Lib.hid hT
  clear L3 B4 hW4 hT
  go_wp2_with fail
  rw [← HT.out, ← HW4.out]
  go_loopw [46] (fun i wr => ∃ (k : Nat), i = .int .i64 k ∧ k ≤ n ∧ wr.heap[T]? = some (.cells #[.bool true, .int .i64 0, .int .i64 0, .slice none 0 0, .slice none 0 0, .bool false, .string ⟨#[]⟩, .int .i64 0, .bool false] 64 (0, 0)) ∧ Below w.heap.size w wr) (fun i _ => n - (intOf i).toNat)
  case atStart => exact ⟨0, rfl, Nat.zero_le _, t4.out, L4.out⟩
  case round =>
    clear t4 L4
    obtain ⟨k, rfl, hk, ht, hbw⟩ := hrel
    have HW := Lib.hid hbw
    by_cases hkl : k < n
    · obtain ⟨g, off, kd, s, wd, rfl, k0, k1, k2⟩ := (HA.out.below HW.out).2 k hkl
      obtain ⟨Wo, hWo⟩ : ∃ x, x = wr.alloc (.cells #[.int .i64 kd, .int .i64 s, .string wd] 68) := ⟨_, rfl⟩
      have hbo : Below wr.heap.size wr Wo := by rw [hWo]; exact (Below.refl _ wr).alloc (Nat.le_refl _) _
      have hto := (hbo.block _ (Array.getElem?_eq_some_iff.1 ht).1).trans ht
      have LO := Lib.hid (HW.out.trans (hbo.mono HW.out.size))
      have TO := Lib.hid hto
      have HWo := Lib.hid hWo
      obtain ⟨⟨p0, p1, p2, p3, p4, p5, p6, p7, p8⟩, pf⟩ := nine ht
      have hsz := (Array.getElem?_eq_some_iff.1 ht).1
      have ne1 : ¬ T = wr.heap.size := by omega
      have ne2 : ¬ wr.heap.size = T := by omega
      clear hbw ht hbo hto hWo
      go_wp2_with fail
      rw [← HWo.out]
      refine (bad_any_pair Wo s wd kd).mono ?_
      rintro e w5 ⟨rfl, L5⟩
      have t5 := (L5.block _ (Array.getElem?_eq_some_iff.1 TO.out).1).trans TO.out
      clear p0 p1 p2 p3 p4 p5 p6 p7 p8 pf
      obtain ⟨⟨p0, p1, p2, p3, p4, p5, p6, p7, p8⟩, pf⟩ := nine t5
      have htz := (Array.getElem?_eq_some_iff.1 t5).1
      have ne3 : ¬ T = w5.heap.size := by omega
      have ne4 : ¬ w5.heap.size = T := by omega
      have ne5 : ¬ T = w5.heap.size + 1 := by omega
      have ne6 : ¬ w5.heap.size + 1 = T := by omega
      have T5 := Lib.hid t5
      go_wp2_with fail
      obtain ⟨W7, hW7, f1, f2, f3, f4, _⟩ := end_nine w5 T w.heap.size hTb.out _ _ _ _ _ _ _ _ _ T5.out (.bool true) (.int .i64 0) (.int .i64 0) (.slice none 0 0) (.slice none 0 0) (.bool false) (.string ⟨#[]⟩) (.int .i64 0) (.bool false)
      rw [← hW7]
      have hz7 : W7.heap.size = w5.heap.size := by rw [hW7]; simp only [World.size_setCell]
      clear hW7
      obtain ⟨W8, hW8⟩ : ∃ W8, W8 = (W7.alloc (.cells #[.bool true, .int .i64 0, .int .i64 0, .slice none 0 0, .slice none 0 0, .bool false, .string ⟨#[]⟩, .int .i64 0, .bool false] 64)).alloc (.cells #[.int .i64 0, .string ⟨#[]⟩] 32) := ⟨_, rfl⟩
      rw [← hW8]
      have B8 : Below W7.heap.size W7 W8 := by rw [hW8]; exact below_two W7 _ _
      have L8 := Lib.hid (((LO.out.trans (L5.mono LO.out.size)).trans f2).trans (B8.mono (Nat.le_trans LO.out.size (Nat.le_trans L5.size f2.size))))
      have t8 := (B8.block _ (Array.getElem?_eq_some_iff.1 f1).1).trans f1
      have T8 := Lib.hid t8
      obtain ⟨S, hS⟩ : ∃ S, S = w5.heap.size + 1 := ⟨_, rfl⟩
      have z8 : W8.heap[S]? = some (.cells #[.int .i64 0, .string ⟨#[]⟩] 32 (0, 0)) := by rw [hS, ← hz7, hW8]; exact (two_new W7 _ _).1
      have Z8 := Lib.hid z8
      rw [← hS]
      clear hS z8
      clear p0 p1 p2 p3 p4 p5 p6 p7 p8 pf f1 f2 f3 f4 hW8 B8 t5 L5 t8 ne1 ne2 ne3 ne4 ne5 ne6 hsz htz hz7
      refine (nil_pair_Words W8).mono ?_
      rintro e w9 ⟨rfl, L9⟩
      have tc := (L9.block _ (Array.getElem?_eq_some_iff.1 T8.out).1).trans T8.out
      have p0 := Pint.of_cells tc 0 _ rfl
      have p3 := Pint.of_cells tc 3 _ rfl
      have p4 := Pint.of_cells tc 4 _ rfl
      have Tc := Lib.hid tc
      have Hc := Lib.hid ((L8.out.trans (L9.mono L8.out.size)).drew)
      have zc := (L9.block _ (Array.getElem?_eq_some_iff.1 Z8.out).1).trans Z8.out
      have s0 := Pint.of_cells zc 0 _ rfl
      have s1 := Pint.of_cells zc 1 _ rfl
      have Zc := Lib.hid zc
      clear zc
      clear tc L9
      go_wp2_with fail
      go_region_held3 (fun w' => w'.cell? ⟨T, 3, none⟩ = some (.slice none 0 0) ∧ w'.cell? ⟨T, 4, none⟩ = some (.slice none 0 0) ∧ w'.cell? ⟨S, 0, none⟩ = some (.int .i64 0) ∧ w'.cell? ⟨S, 1, none⟩ = some (.string ⟨#[]⟩)) (go_keep)
        (first
          | (go_at_call 35; (with_reducible refine (nil_pair_Now _).mono ?_); rintro e w10 ⟨rfl, L10⟩; have tc := (L10.block _ (Array.getElem?_eq_some_iff.1 Tc.out).1).trans Tc.out; replace Tc := Lib.hid tc; clear tc p0 p3 p4; have p0 := Pint.of_cells Tc.out 0 _ rfl; have p3 := Pint.of_cells Tc.out 3 _ rfl; have p4 := Pint.of_cells Tc.out 4 _ rfl; have zc := (L10.block _ (Array.getElem?_eq_some_iff.1 Zc.out).1).trans Zc.out; replace Zc := Lib.hid zc; clear zc s0 s1; have s0 := Pint.of_cells Zc.out 0 _ rfl; have s1 := Pint.of_cells Zc.out 1 _ rfl; replace Hc := Lib.hid (Hc.out.trans (L10.mono Hc.out.size)); clear L10)
          | (go_at_call 31; (with_reducible refine (ref_Words _ (.slice none 0 0) [] (SRow.nil _) (Nat.zero_le _)).mono ?_); rintro e w11 ⟨vX, rfl, RX, L11⟩; obtain ⟨AX, cX, rfl, RX, _⟩ := StrRow.reads' (l := []) RX; have tc := (L11.block _ (Array.getElem?_eq_some_iff.1 Tc.out).1).trans Tc.out; replace Tc := Lib.hid tc; clear tc p0 p3 p4; have p0 := Pint.of_cells Tc.out 0 _ rfl; have p3 := Pint.of_cells Tc.out 3 _ rfl; have p4 := Pint.of_cells Tc.out 4 _ rfl; have zc := (L11.block _ (Array.getElem?_eq_some_iff.1 Zc.out).1).trans Zc.out; replace Zc := Lib.hid zc; clear zc s0 s1; have s0 := Pint.of_cells Zc.out 0 _ rfl; have s1 := Pint.of_cells Zc.out 1 _ rfl; replace Hc := Lib.hid (Hc.out.trans (L11.mono Hc.out.size)); clear RX L11)
          | (go_at_call 21; (with_reducible refine (same_nil_pair _ AX cX).mono ?_); rintro e w12 ⟨rfl, L12⟩; have tc := (L12.block _ (Array.getElem?_eq_some_iff.1 Tc.out).1).trans Tc.out; replace Tc := Lib.hid tc; clear tc p0 p3 p4; have p0 := Pint.of_cells Tc.out 0 _ rfl; have p3 := Pint.of_cells Tc.out 3 _ rfl; have p4 := Pint.of_cells Tc.out 4 _ rfl; have zc := (L12.block _ (Array.getElem?_eq_some_iff.1 Zc.out).1).trans Zc.out; replace Zc := Lib.hid zc; clear zc s0 s1; have s0 := Pint.of_cells Zc.out 0 _ rfl; have s1 := Pint.of_cells Zc.out 1 _ rfl; replace Hc := Lib.hid (Hc.out.trans (L12.mono Hc.out.size)); clear L12))
      all_goals
        go_wp2_with fail
        go_roundw
        case rel => exact ⟨k + 1, by go_num, by omega, Tc.out, Hc.out⟩
        case measure => simp [intOf]; omega
    · obtain rfl : k = n := by omega
      clear hbw ht
      go_wp2_with fail
      go_ret
      exact ⟨rfl, HW.out⟩
end Go.Proofs.Ytihfkoomimohbaa
