/- The statements' step on no past (int). -/
import Derived.Test.YtihfkoomimohbaaStepW
import Derived.Deep.RegionHeld3
import Derived.Deep.DrawnRows
namespace Go.Proofs.Ytihfkoomimohbaa
open Go.RowKit Past17


set_option maxRecDepth 100000 in
set_option maxHeartbeats 4000000 in
theorem bad_do_int (w : World) (s : Int) (wd : ByteArray)  :
    Calls Try.prog 30 #[.pointer none, .agg #[.bool true, .int .i64 0, .int .i64 0, .slice none 0 0, .slice none 0 0, .bool false, .string ⟨#[]⟩, .int .i64 0, .bool false], .agg #[.int .i64 1, .int .i64 s, .string wd], .func (.func 12) #[] #[]] w
      fun e w' => e = .returned (.tuple #[bad, .bool true]) ∧ Below w.heap.size w w' := by
  obtain ⟨W3, hW3⟩ : ∃ W3, W3 = ((w.alloc (.cells #[.bool true, .int .i64 0, .int .i64 0, .slice none 0 0, .slice none 0 0, .bool false, .string ⟨#[]⟩, .int .i64 0, .bool false] 64)).alloc (.cells #[.int .i64 1, .int .i64 s, .string wd] 68)).alloc (.cells #[.bool false, .int .i64 0, .int .i64 0, .slice none 0 0, .slice none 0 0, .bool false, .string ⟨#[]⟩, .int .i64 0, .bool false] 64) := ⟨_, rfl⟩
  have B3 : Below w.heap.size w W3 := by rw [hW3]; exact below_three w _ _ _
  have hz3 : W3.heap.size = w.heap.size + 3 := by rw [hW3]; simp
  have x3 : Hid _ := Lib.hid (hW3 ▸ (three_new w _ _ _))
  have HB3 := Lib.hid B3
  have HW3 := Lib.hid hW3
  clear hW3 B3
  go_enter Try.func30, Try.ntmps30
  go_wp2_with fail
  rw [← HW3.out]
  refine (ref_do_bad W3 s wd).mono ?_
  rintro e w4 ⟨rfl, L4⟩
  unfold bad
  obtain ⟨W5, hW5⟩ : ∃ W5, W5 = w4.alloc (.cells #[.bool true, .int .i64 0, .int .i64 0, .slice none 0 0, .slice none 0 0, .bool false, .string ⟨#[]⟩, .int .i64 0, .bool false] 64) := ⟨_, rfl⟩
  have B5 : Below w4.heap.size w4 W5 := by rw [hW5]; exact (Below.refl _ w4).alloc (Nat.le_refl _) _
  have hz4 := L4.size
  have t5 : W5.heap[w4.heap.size]? = some (.cells #[.bool true, .int .i64 0, .int .i64 0, .slice none 0 0, .slice none 0 0, .bool false, .string ⟨#[]⟩, .int .i64 0, .bool false] 64 (0, 0)) := by rw [hW5]; exact World.alloc_heap_new w4 _
  have u5 := (B5.block (w.heap.size + 1) (by omega)).trans ((L4.block _ (by omega)).trans x3.out.2.1)
  have r5 := (B5.block (w.heap.size + 2) (by omega)).trans ((L4.block _ (by omega)).trans x3.out.1)
  have HB5 := Lib.hid ((HB3.out.trans (L4.mono (by omega))).trans (B5.mono (by omega)))
  have hz5 := B5.size
  have e4 : ¬ w4.heap.size = w.heap.size + 1 + 1 := by omega
  have e4' : ¬ w.heap.size + 1 + 1 = w4.heap.size := by omega
  have ht5 := (Array.getElem?_eq_some_iff.1 t5).1
  have HW5 := Lib.hid hW5
  obtain ⟨⟨p0, p1, p2, p3, p4, p5, p6, p7, p8⟩, pf⟩ := nine t5
  obtain ⟨⟨q0, q1, q2, q3, q4, q5, q6, q7, q8⟩, qf⟩ := nine r5
  have o1 := Pint.of_cells u5 1 _ rfl
  have o2 := Pint.of_cells u5 2 _ rfl
  have T5 := Lib.hid t5
  have U5 := Lib.hid u5
  have Q5 := Lib.hid r5
  clear hW5 B5 t5 u5 r5 L4
  go_wp2_with fail
  rw [← HW5.out]
  go_region_held3 (fun w' => w'.cell? ⟨w4.heap.size, 0, none⟩ = some (.bool true) ∧ w'.cell? ⟨w4.heap.size, 1, none⟩ = some (.int .i64 0) ∧ w'.cell? ⟨w4.heap.size, 2, none⟩ = some (.int .i64 0) ∧ w'.cell? ⟨w4.heap.size, 3, none⟩ = some (.slice none 0 0) ∧ w'.cell? ⟨w4.heap.size, 4, none⟩ = some (.slice none 0 0) ∧ w'.cell? ⟨w4.heap.size, 5, none⟩ = some (.bool false) ∧ w'.cell? ⟨w4.heap.size, 6, none⟩ = some (.string ⟨#[]⟩) ∧ w'.cell? ⟨w4.heap.size, 7, none⟩ = some (.int .i64 0) ∧ w'.cell? ⟨w4.heap.size, 8, none⟩ = some (.bool false) ∧ w'.cell? ⟨w.heap.size + 1, 1, none⟩ = some (.int .i64 s) ∧ w'.cell? ⟨w.heap.size + 1, 2, none⟩ = some (.string wd)) (go_keep)
    (first | (go_at_call 12; (with_reducible refine (of_int s _).mono ?_); rintro e w0 ⟨rfl, rfl⟩) | (go_at_call 22; (with_reducible refine (nil_int_Do _ s wd).mono ?_); rintro e w6 ⟨rfl, L6⟩; have hl6 := L6.size; have t6 := (L6.block w4.heap.size (by first | (show _ < W5.heap.size; omega) | omega)).trans T5.out; have u6 := (L6.block (w.heap.size + 1) (by first | (show _ < W5.heap.size; omega) | omega)).trans U5.out; have r6 := (L6.block (w.heap.size + 2) (by first | (show _ < W5.heap.size; omega) | omega)).trans Q5.out; clear o1 o2 p0 p1 p2 p3 p4 p5 p6 p7 p8 pf q0 q1 q2 q3 q4 q5 q6 q7 q8 qf; obtain ⟨⟨p0, p1, p2, p3, p4, p5, p6, p7, p8⟩, pf⟩ := nine t6; obtain ⟨⟨q0, q1, q2, q3, q4, q5, q6, q7, q8⟩, qf⟩ := nine r6; have T6 := Lib.hid t6; have U6 := Lib.hid u6; have Q6 := Lib.hid r6; have o1 := Pint.of_cells u6 1 _ rfl; have o2 := Pint.of_cells u6 2 _ rfl; have HL6 := Lib.hid L6; clear L6 t6 u6 r6))
  all_goals
    go_wp2_with fail
    obtain ⟨W9, hW9, f1, f2, f3, f4, _⟩ := end_nine w6 (w.heap.size + 1 + 1) w.heap.size (by omega) _ _ _ _ _ _ _ _ _ Q6.out (.bool true) (.int .i64 0) (.int .i64 0) (.slice none 0 0) (.slice none 0 0) (.bool false) (.string ⟨#[]⟩) (.int .i64 0) (.bool false)
    rw [← hW9]
    clear hW9
    refine bodyPost_ret (ret_rt (fn := Try.f30) rfl _ _ (w.heap.size + 1 + 1) _ _ _ _ _ _ _ _ _ (by rfl) f1) (by rfl) ?_
    exact ⟨by simp [bad], ((HB5.out.drew.trans (HL6.out.mono (show w.heap.size ≤ W5.heap.size by omega))).trans f2)⟩

set_option maxRecDepth 100000 in
set_option maxHeartbeats 4000000 in
theorem bad_begin_int (w : World) (s : Int) (wd : ByteArray)  :
    Calls Try.prog 30 #[.pointer none, .agg #[.bool true, .int .i64 0, .int .i64 0, .slice none 0 0, .slice none 0 0, .bool false, .string ⟨#[]⟩, .int .i64 0, .bool false], .agg #[.int .i64 4, .int .i64 s, .string wd], .func (.func 12) #[] #[]] w
      fun e w' => e = .returned (.tuple #[bad, .bool true]) ∧ Below w.heap.size w w' := by
  obtain ⟨W3, hW3⟩ : ∃ W3, W3 = ((w.alloc (.cells #[.bool true, .int .i64 0, .int .i64 0, .slice none 0 0, .slice none 0 0, .bool false, .string ⟨#[]⟩, .int .i64 0, .bool false] 64)).alloc (.cells #[.int .i64 4, .int .i64 s, .string wd] 68)).alloc (.cells #[.bool false, .int .i64 0, .int .i64 0, .slice none 0 0, .slice none 0 0, .bool false, .string ⟨#[]⟩, .int .i64 0, .bool false] 64) := ⟨_, rfl⟩
  have B3 : Below w.heap.size w W3 := by rw [hW3]; exact below_three w _ _ _
  have hz3 : W3.heap.size = w.heap.size + 3 := by rw [hW3]; simp
  have x3 : Hid _ := Lib.hid (hW3 ▸ (three_new w _ _ _))
  have HB3 := Lib.hid B3
  have HW3 := Lib.hid hW3
  clear hW3 B3
  go_enter Try.func30, Try.ntmps30
  go_wp2_with fail
  rw [← HW3.out]
  refine (ref_begin_bad W3 wd).mono ?_
  rintro e w4 ⟨rfl, L4⟩
  unfold bad
  obtain ⟨W5, hW5⟩ : ∃ W5, W5 = w4.alloc (.cells #[.bool true, .int .i64 0, .int .i64 0, .slice none 0 0, .slice none 0 0, .bool false, .string ⟨#[]⟩, .int .i64 0, .bool false] 64) := ⟨_, rfl⟩
  have B5 : Below w4.heap.size w4 W5 := by rw [hW5]; exact (Below.refl _ w4).alloc (Nat.le_refl _) _
  have hz4 := L4.size
  have t5 : W5.heap[w4.heap.size]? = some (.cells #[.bool true, .int .i64 0, .int .i64 0, .slice none 0 0, .slice none 0 0, .bool false, .string ⟨#[]⟩, .int .i64 0, .bool false] 64 (0, 0)) := by rw [hW5]; exact World.alloc_heap_new w4 _
  have u5 := (B5.block (w.heap.size + 1) (by omega)).trans ((L4.block _ (by omega)).trans x3.out.2.1)
  have r5 := (B5.block (w.heap.size + 2) (by omega)).trans ((L4.block _ (by omega)).trans x3.out.1)
  have HB5 := Lib.hid ((HB3.out.trans (L4.mono (by omega))).trans (B5.mono (by omega)))
  have hz5 := B5.size
  have e4 : ¬ w4.heap.size = w.heap.size + 1 + 1 := by omega
  have e4' : ¬ w.heap.size + 1 + 1 = w4.heap.size := by omega
  have ht5 := (Array.getElem?_eq_some_iff.1 t5).1
  have HW5 := Lib.hid hW5
  obtain ⟨⟨p0, p1, p2, p3, p4, p5, p6, p7, p8⟩, pf⟩ := nine t5
  obtain ⟨⟨q0, q1, q2, q3, q4, q5, q6, q7, q8⟩, qf⟩ := nine r5
  have o1 := Pint.of_cells u5 1 _ rfl
  have o2 := Pint.of_cells u5 2 _ rfl
  have T5 := Lib.hid t5
  have U5 := Lib.hid u5
  have Q5 := Lib.hid r5
  clear hW5 B5 t5 u5 r5 L4
  go_wp2_with fail
  rw [← HW5.out]
  go_region_held3 (fun w' => w'.cell? ⟨w4.heap.size, 0, none⟩ = some (.bool true) ∧ w'.cell? ⟨w4.heap.size, 1, none⟩ = some (.int .i64 0) ∧ w'.cell? ⟨w4.heap.size, 2, none⟩ = some (.int .i64 0) ∧ w'.cell? ⟨w4.heap.size, 3, none⟩ = some (.slice none 0 0) ∧ w'.cell? ⟨w4.heap.size, 4, none⟩ = some (.slice none 0 0) ∧ w'.cell? ⟨w4.heap.size, 5, none⟩ = some (.bool false) ∧ w'.cell? ⟨w4.heap.size, 6, none⟩ = some (.string ⟨#[]⟩) ∧ w'.cell? ⟨w4.heap.size, 7, none⟩ = some (.int .i64 0) ∧ w'.cell? ⟨w4.heap.size, 8, none⟩ = some (.bool false) ∧ w'.cell? ⟨w.heap.size + 1, 1, none⟩ = some (.int .i64 s) ∧ w'.cell? ⟨w.heap.size + 1, 2, none⟩ = some (.string wd)) (go_keep)
    (first | (go_at_call 23; (with_reducible refine (nil_int_Begin _ wd).mono ?_); rintro e w6 ⟨rfl, L6⟩; have hl6 := L6.size; have t6 := (L6.block w4.heap.size (by first | (show _ < W5.heap.size; omega) | omega)).trans T5.out; have u6 := (L6.block (w.heap.size + 1) (by first | (show _ < W5.heap.size; omega) | omega)).trans U5.out; have r6 := (L6.block (w.heap.size + 2) (by first | (show _ < W5.heap.size; omega) | omega)).trans Q5.out; clear o1 o2 p0 p1 p2 p3 p4 p5 p6 p7 p8 pf q0 q1 q2 q3 q4 q5 q6 q7 q8 qf; obtain ⟨⟨p0, p1, p2, p3, p4, p5, p6, p7, p8⟩, pf⟩ := nine t6; obtain ⟨⟨q0, q1, q2, q3, q4, q5, q6, q7, q8⟩, qf⟩ := nine r6; have T6 := Lib.hid t6; have U6 := Lib.hid u6; have Q6 := Lib.hid r6; have o1 := Pint.of_cells u6 1 _ rfl; have o2 := Pint.of_cells u6 2 _ rfl; have HL6 := Lib.hid L6; clear L6 t6 u6 r6))
  all_goals
    go_wp2_with fail
    obtain ⟨W9, hW9, f1, f2, f3, f4, _⟩ := end_nine w6 (w.heap.size + 1 + 1) w.heap.size (by omega) _ _ _ _ _ _ _ _ _ Q6.out (.bool true) (.int .i64 0) (.int .i64 0) (.slice none 0 0) (.slice none 0 0) (.bool false) (.string ⟨#[]⟩) (.int .i64 0) (.bool false)
    rw [← hW9]
    clear hW9
    refine bodyPost_ret (ret_rt (fn := Try.f30) rfl _ _ (w.heap.size + 1 + 1) _ _ _ _ _ _ _ _ _ (by rfl) f1) (by rfl) ?_
    exact ⟨by simp [bad], ((HB5.out.drew.trans (HL6.out.mono (show w.heap.size ≤ W5.heap.size by omega))).trans f2)⟩

set_option maxRecDepth 100000 in
set_option maxHeartbeats 4000000 in
theorem bad_end_int (w : World) (s : Int) (wd : ByteArray)  :
    Calls Try.prog 30 #[.pointer none, .agg #[.bool true, .int .i64 0, .int .i64 0, .slice none 0 0, .slice none 0 0, .bool false, .string ⟨#[]⟩, .int .i64 0, .bool false], .agg #[.int .i64 5, .int .i64 s, .string wd], .func (.func 12) #[] #[]] w
      fun e w' => e = .returned (.tuple #[bad, .bool true]) ∧ Below w.heap.size w w' := by
  obtain ⟨W3, hW3⟩ : ∃ W3, W3 = ((w.alloc (.cells #[.bool true, .int .i64 0, .int .i64 0, .slice none 0 0, .slice none 0 0, .bool false, .string ⟨#[]⟩, .int .i64 0, .bool false] 64)).alloc (.cells #[.int .i64 5, .int .i64 s, .string wd] 68)).alloc (.cells #[.bool false, .int .i64 0, .int .i64 0, .slice none 0 0, .slice none 0 0, .bool false, .string ⟨#[]⟩, .int .i64 0, .bool false] 64) := ⟨_, rfl⟩
  have B3 : Below w.heap.size w W3 := by rw [hW3]; exact below_three w _ _ _
  have hz3 : W3.heap.size = w.heap.size + 3 := by rw [hW3]; simp
  have x3 : Hid _ := Lib.hid (hW3 ▸ (three_new w _ _ _))
  have HB3 := Lib.hid B3
  have HW3 := Lib.hid hW3
  clear hW3 B3
  go_enter Try.func30, Try.ntmps30
  go_wp2_with fail
  rw [← HW3.out]
  refine (ref_end_bad W3 ).mono ?_
  rintro e w4 ⟨rfl, L4⟩
  unfold bad
  obtain ⟨W5, hW5⟩ : ∃ W5, W5 = w4.alloc (.cells #[.bool true, .int .i64 0, .int .i64 0, .slice none 0 0, .slice none 0 0, .bool false, .string ⟨#[]⟩, .int .i64 0, .bool false] 64) := ⟨_, rfl⟩
  have B5 : Below w4.heap.size w4 W5 := by rw [hW5]; exact (Below.refl _ w4).alloc (Nat.le_refl _) _
  have hz4 := L4.size
  have t5 : W5.heap[w4.heap.size]? = some (.cells #[.bool true, .int .i64 0, .int .i64 0, .slice none 0 0, .slice none 0 0, .bool false, .string ⟨#[]⟩, .int .i64 0, .bool false] 64 (0, 0)) := by rw [hW5]; exact World.alloc_heap_new w4 _
  have u5 := (B5.block (w.heap.size + 1) (by omega)).trans ((L4.block _ (by omega)).trans x3.out.2.1)
  have r5 := (B5.block (w.heap.size + 2) (by omega)).trans ((L4.block _ (by omega)).trans x3.out.1)
  have HB5 := Lib.hid ((HB3.out.trans (L4.mono (by omega))).trans (B5.mono (by omega)))
  have hz5 := B5.size
  have e4 : ¬ w4.heap.size = w.heap.size + 1 + 1 := by omega
  have e4' : ¬ w.heap.size + 1 + 1 = w4.heap.size := by omega
  have ht5 := (Array.getElem?_eq_some_iff.1 t5).1
  have HW5 := Lib.hid hW5
  obtain ⟨⟨p0, p1, p2, p3, p4, p5, p6, p7, p8⟩, pf⟩ := nine t5
  obtain ⟨⟨q0, q1, q2, q3, q4, q5, q6, q7, q8⟩, qf⟩ := nine r5
  have o1 := Pint.of_cells u5 1 _ rfl
  have o2 := Pint.of_cells u5 2 _ rfl
  have T5 := Lib.hid t5
  have U5 := Lib.hid u5
  have Q5 := Lib.hid r5
  clear hW5 B5 t5 u5 r5 L4
  go_wp2_with fail
  rw [← HW5.out]
  go_region_held3 (fun w' => w'.cell? ⟨w4.heap.size, 0, none⟩ = some (.bool true) ∧ w'.cell? ⟨w4.heap.size, 1, none⟩ = some (.int .i64 0) ∧ w'.cell? ⟨w4.heap.size, 2, none⟩ = some (.int .i64 0) ∧ w'.cell? ⟨w4.heap.size, 3, none⟩ = some (.slice none 0 0) ∧ w'.cell? ⟨w4.heap.size, 4, none⟩ = some (.slice none 0 0) ∧ w'.cell? ⟨w4.heap.size, 5, none⟩ = some (.bool false) ∧ w'.cell? ⟨w4.heap.size, 6, none⟩ = some (.string ⟨#[]⟩) ∧ w'.cell? ⟨w4.heap.size, 7, none⟩ = some (.int .i64 0) ∧ w'.cell? ⟨w4.heap.size, 8, none⟩ = some (.bool false) ∧ w'.cell? ⟨w.heap.size + 1, 1, none⟩ = some (.int .i64 s) ∧ w'.cell? ⟨w.heap.size + 1, 2, none⟩ = some (.string wd)) (go_keep)
    (first | (go_at_call 16; (with_reducible refine (nil_int_End _ ).mono ?_); rintro e w6 ⟨rfl, L6⟩; have hl6 := L6.size; have t6 := (L6.block w4.heap.size (by first | (show _ < W5.heap.size; omega) | omega)).trans T5.out; have u6 := (L6.block (w.heap.size + 1) (by first | (show _ < W5.heap.size; omega) | omega)).trans U5.out; have r6 := (L6.block (w.heap.size + 2) (by first | (show _ < W5.heap.size; omega) | omega)).trans Q5.out; clear o1 o2 p0 p1 p2 p3 p4 p5 p6 p7 p8 pf q0 q1 q2 q3 q4 q5 q6 q7 q8 qf; obtain ⟨⟨p0, p1, p2, p3, p4, p5, p6, p7, p8⟩, pf⟩ := nine t6; obtain ⟨⟨q0, q1, q2, q3, q4, q5, q6, q7, q8⟩, qf⟩ := nine r6; have T6 := Lib.hid t6; have U6 := Lib.hid u6; have Q6 := Lib.hid r6; have o1 := Pint.of_cells u6 1 _ rfl; have o2 := Pint.of_cells u6 2 _ rfl; have HL6 := Lib.hid L6; clear L6 t6 u6 r6))
  all_goals
    go_wp2_with fail
    obtain ⟨W9, hW9, f1, f2, f3, f4, _⟩ := end_nine w6 (w.heap.size + 1 + 1) w.heap.size (by omega) _ _ _ _ _ _ _ _ _ Q6.out (.bool true) (.int .i64 0) (.int .i64 0) (.slice none 0 0) (.slice none 0 0) (.bool false) (.string ⟨#[]⟩) (.int .i64 0) (.bool false)
    rw [← hW9]
    clear hW9
    refine bodyPost_ret (ret_rt (fn := Try.f30) rfl _ _ (w.heap.size + 1 + 1) _ _ _ _ _ _ _ _ _ (by rfl) f1) (by rfl) ?_
    exact ⟨by simp [bad], ((HB5.out.drew.trans (HL6.out.mono (show w.heap.size ≤ W5.heap.size by omega))).trans f2)⟩

set_option maxRecDepth 100000 in
set_option maxHeartbeats 4000000 in
theorem bad_forget_int (w : World) (s : Int) (wd : ByteArray)  :
    Calls Try.prog 30 #[.pointer none, .agg #[.bool true, .int .i64 0, .int .i64 0, .slice none 0 0, .slice none 0 0, .bool false, .string ⟨#[]⟩, .int .i64 0, .bool false], .agg #[.int .i64 6, .int .i64 s, .string wd], .func (.func 12) #[] #[]] w
      fun e w' => e = .returned (.tuple #[bad, .bool true]) ∧ Below w.heap.size w w' := by
  obtain ⟨W3, hW3⟩ : ∃ W3, W3 = ((w.alloc (.cells #[.bool true, .int .i64 0, .int .i64 0, .slice none 0 0, .slice none 0 0, .bool false, .string ⟨#[]⟩, .int .i64 0, .bool false] 64)).alloc (.cells #[.int .i64 6, .int .i64 s, .string wd] 68)).alloc (.cells #[.bool false, .int .i64 0, .int .i64 0, .slice none 0 0, .slice none 0 0, .bool false, .string ⟨#[]⟩, .int .i64 0, .bool false] 64) := ⟨_, rfl⟩
  have B3 : Below w.heap.size w W3 := by rw [hW3]; exact below_three w _ _ _
  have hz3 : W3.heap.size = w.heap.size + 3 := by rw [hW3]; simp
  have x3 : Hid _ := Lib.hid (hW3 ▸ (three_new w _ _ _))
  have HB3 := Lib.hid B3
  have HW3 := Lib.hid hW3
  clear hW3 B3
  go_enter Try.func30, Try.ntmps30
  go_wp2_with fail
  rw [← HW3.out]
  refine (ref_forget_bad W3 ).mono ?_
  rintro e w4 ⟨rfl, L4⟩
  unfold bad
  obtain ⟨W5, hW5⟩ : ∃ W5, W5 = w4.alloc (.cells #[.bool true, .int .i64 0, .int .i64 0, .slice none 0 0, .slice none 0 0, .bool false, .string ⟨#[]⟩, .int .i64 0, .bool false] 64) := ⟨_, rfl⟩
  have B5 : Below w4.heap.size w4 W5 := by rw [hW5]; exact (Below.refl _ w4).alloc (Nat.le_refl _) _
  have hz4 := L4.size
  have t5 : W5.heap[w4.heap.size]? = some (.cells #[.bool true, .int .i64 0, .int .i64 0, .slice none 0 0, .slice none 0 0, .bool false, .string ⟨#[]⟩, .int .i64 0, .bool false] 64 (0, 0)) := by rw [hW5]; exact World.alloc_heap_new w4 _
  have u5 := (B5.block (w.heap.size + 1) (by omega)).trans ((L4.block _ (by omega)).trans x3.out.2.1)
  have r5 := (B5.block (w.heap.size + 2) (by omega)).trans ((L4.block _ (by omega)).trans x3.out.1)
  have HB5 := Lib.hid ((HB3.out.trans (L4.mono (by omega))).trans (B5.mono (by omega)))
  have hz5 := B5.size
  have e4 : ¬ w4.heap.size = w.heap.size + 1 + 1 := by omega
  have e4' : ¬ w.heap.size + 1 + 1 = w4.heap.size := by omega
  have ht5 := (Array.getElem?_eq_some_iff.1 t5).1
  have HW5 := Lib.hid hW5
  obtain ⟨⟨p0, p1, p2, p3, p4, p5, p6, p7, p8⟩, pf⟩ := nine t5
  obtain ⟨⟨q0, q1, q2, q3, q4, q5, q6, q7, q8⟩, qf⟩ := nine r5
  have o1 := Pint.of_cells u5 1 _ rfl
  have o2 := Pint.of_cells u5 2 _ rfl
  have T5 := Lib.hid t5
  have U5 := Lib.hid u5
  have Q5 := Lib.hid r5
  clear hW5 B5 t5 u5 r5 L4
  go_wp2_with fail
  rw [← HW5.out]
  go_region_held3 (fun w' => w'.cell? ⟨w4.heap.size, 0, none⟩ = some (.bool true) ∧ w'.cell? ⟨w4.heap.size, 1, none⟩ = some (.int .i64 0) ∧ w'.cell? ⟨w4.heap.size, 2, none⟩ = some (.int .i64 0) ∧ w'.cell? ⟨w4.heap.size, 3, none⟩ = some (.slice none 0 0) ∧ w'.cell? ⟨w4.heap.size, 4, none⟩ = some (.slice none 0 0) ∧ w'.cell? ⟨w4.heap.size, 5, none⟩ = some (.bool false) ∧ w'.cell? ⟨w4.heap.size, 6, none⟩ = some (.string ⟨#[]⟩) ∧ w'.cell? ⟨w4.heap.size, 7, none⟩ = some (.int .i64 0) ∧ w'.cell? ⟨w4.heap.size, 8, none⟩ = some (.bool false) ∧ w'.cell? ⟨w.heap.size + 1, 1, none⟩ = some (.int .i64 s) ∧ w'.cell? ⟨w.heap.size + 1, 2, none⟩ = some (.string wd)) (go_keep)
    (first | (go_at_call 24; (with_reducible refine (nil_int_Forget _ ).mono ?_); rintro e w6 ⟨rfl, L6⟩; have hl6 := L6.size; have t6 := (L6.block w4.heap.size (by first | (show _ < W5.heap.size; omega) | omega)).trans T5.out; have u6 := (L6.block (w.heap.size + 1) (by first | (show _ < W5.heap.size; omega) | omega)).trans U5.out; have r6 := (L6.block (w.heap.size + 2) (by first | (show _ < W5.heap.size; omega) | omega)).trans Q5.out; clear o1 o2 p0 p1 p2 p3 p4 p5 p6 p7 p8 pf q0 q1 q2 q3 q4 q5 q6 q7 q8 qf; obtain ⟨⟨p0, p1, p2, p3, p4, p5, p6, p7, p8⟩, pf⟩ := nine t6; obtain ⟨⟨q0, q1, q2, q3, q4, q5, q6, q7, q8⟩, qf⟩ := nine r6; have T6 := Lib.hid t6; have U6 := Lib.hid u6; have Q6 := Lib.hid r6; have o1 := Pint.of_cells u6 1 _ rfl; have o2 := Pint.of_cells u6 2 _ rfl; have HL6 := Lib.hid L6; clear L6 t6 u6 r6))
  all_goals
    go_wp2_with fail
    obtain ⟨W9, hW9, f1, f2, f3, f4, _⟩ := end_nine w6 (w.heap.size + 1 + 1) w.heap.size (by omega) _ _ _ _ _ _ _ _ _ Q6.out (.bool true) (.int .i64 0) (.int .i64 0) (.slice none 0 0) (.slice none 0 0) (.bool false) (.string ⟨#[]⟩) (.int .i64 0) (.bool false)
    rw [← hW9]
    clear hW9
    refine bodyPost_ret (ret_rt (fn := Try.f30) rfl _ _ (w.heap.size + 1 + 1) _ _ _ _ _ _ _ _ _ (by rfl) f1) (by rfl) ?_
    exact ⟨by simp [bad], ((HB5.out.drew.trans (HL6.out.mono (show w.heap.size ≤ W5.heap.size by omega))).trans f2)⟩

set_option maxRecDepth 100000 in
set_option maxHeartbeats 4000000 in
theorem bad_none_int (w : World) (s : Int) (wd : ByteArray) (k : Int) (k1 : k ≠ 1) (k2 : k ≠ 2) (k3 : k ≠ 3) (k4 : k ≠ 4) (k5 : k ≠ 5) (k6 : k ≠ 6) :
    Calls Try.prog 30 #[.pointer none, .agg #[.bool true, .int .i64 0, .int .i64 0, .slice none 0 0, .slice none 0 0, .bool false, .string ⟨#[]⟩, .int .i64 0, .bool false], .agg #[.int .i64 k, .int .i64 s, .string wd], .func (.func 12) #[] #[]] w
      fun e w' => e = .returned (.tuple #[bad, .bool true]) ∧ Below w.heap.size w w' := by
  have f1 : (k == 1) = false := beq_eq_false_iff_ne.2 k1
  have f2 : (k == 2) = false := beq_eq_false_iff_ne.2 k2
  have f3 : (k == 3) = false := beq_eq_false_iff_ne.2 k3
  have f4 : (k == 4) = false := beq_eq_false_iff_ne.2 k4
  have f5 : (k == 5) = false := beq_eq_false_iff_ne.2 k5
  have f6 : (k == 6) = false := beq_eq_false_iff_ne.2 k6
  obtain ⟨W3, hW3⟩ : ∃ W3, W3 = ((w.alloc (.cells #[.bool true, .int .i64 0, .int .i64 0, .slice none 0 0, .slice none 0 0, .bool false, .string ⟨#[]⟩, .int .i64 0, .bool false] 64)).alloc (.cells #[.int .i64 k, .int .i64 s, .string wd] 68)).alloc (.cells #[.bool false, .int .i64 0, .int .i64 0, .slice none 0 0, .slice none 0 0, .bool false, .string ⟨#[]⟩, .int .i64 0, .bool false] 64) := ⟨_, rfl⟩
  have B3 : Below w.heap.size w W3 := by rw [hW3]; exact below_three w _ _ _
  have hz3 : W3.heap.size = w.heap.size + 3 := by rw [hW3]; simp
  have x3 : Hid _ := Lib.hid (hW3 ▸ (three_new w _ _ _))
  have HB3 := Lib.hid B3
  have HW3 := Lib.hid hW3
  clear hW3 B3
  obtain ⟨W9, hW9⟩ : ∃ W9, W9 = ((w.alloc (.cells #[.bool true, .int .i64 0, .int .i64 0, .slice none 0 0, .slice none 0 0, .bool false, .string ⟨#[]⟩, .int .i64 0, .bool false] 64)).alloc (.cells #[.int .i64 k, .int .i64 s, .string wd] 68)).alloc (.cells #[.bool true, .int .i64 0, .int .i64 0, .slice none 0 0, .slice none 0 0, .bool false, .string ⟨#[]⟩, .int .i64 0, .bool false] 64) := ⟨_, rfl⟩
  have B9 : Below w.heap.size w W9 := by rw [hW9]; exact below_three w _ _ _
  have x9 : W9.heap[w.heap.size + 1 + 1]? = some (.cells #[.bool true, .int .i64 0, .int .i64 0, .slice none 0 0, .slice none 0 0, .bool false, .string ⟨#[]⟩, .int .i64 0, .bool false] 64 (0, 0)) := by rw [hW9]; exact (three_new w _ _ _).1
  have HB9 := Lib.hid B9
  have HW9 := Lib.hid hW9
  have X9 := Lib.hid x9
  clear HW3 HB3 x3 hz3 hW9 B9 x9
  go_enter Try.func30, Try.ntmps30
  go_wp2_with fail
  rw [← HW9.out]
  refine bodyPost_ret (ret_rt (fn := Try.f30) rfl _ _ (w.heap.size + 1 + 1) _ _ _ _ _ _ _ _ _ (by rfl) X9.out) (by rfl) ?_
  exact ⟨by simp [bad], HB9.out⟩

set_option maxRecDepth 100000 in
set_option maxHeartbeats 4000000 in
theorem bad_undo_int (w : World) (s : Int) (wd : ByteArray)  :
    Calls Try.prog 30 #[.pointer none, .agg #[.bool true, .int .i64 0, .int .i64 0, .slice none 0 0, .slice none 0 0, .bool false, .string ⟨#[]⟩, .int .i64 0, .bool false], .agg #[.int .i64 2, .int .i64 s, .string wd], .func (.func 12) #[] #[]] w
      fun e w' => e = .returned (.tuple #[bad, .bool true]) ∧ Below w.heap.size w w' := by
  obtain ⟨W3, hW3⟩ : ∃ W3, W3 = ((w.alloc (.cells #[.bool true, .int .i64 0, .int .i64 0, .slice none 0 0, .slice none 0 0, .bool false, .string ⟨#[]⟩, .int .i64 0, .bool false] 64)).alloc (.cells #[.int .i64 2, .int .i64 s, .string wd] 68)).alloc (.cells #[.bool false, .int .i64 0, .int .i64 0, .slice none 0 0, .slice none 0 0, .bool false, .string ⟨#[]⟩, .int .i64 0, .bool false] 64) := ⟨_, rfl⟩
  have B3 : Below w.heap.size w W3 := by rw [hW3]; exact below_three w _ _ _
  have hz3 : W3.heap.size = w.heap.size + 3 := by rw [hW3]; simp
  have x3 : Hid _ := Lib.hid (hW3 ▸ (three_new w _ _ _))
  have HB3 := Lib.hid B3
  have HW3 := Lib.hid hW3
  clear hW3 B3
  obtain ⟨W5, hW5⟩ : ∃ W5, W5 = (W3.alloc (.cells #[.bool false, .int .i64 0, .int .i64 0, .slice none 0 0, .slice none 0 0, .bool false, .string ⟨#[]⟩, .int .i64 0, .bool false] 64)).alloc (.cells #[.int .i64 0, .string ⟨#[]⟩] 98) := ⟨_, rfl⟩
  have B5 : Below W3.heap.size W3 W5 := by rw [hW5]; exact below_two W3 _ _
  have hz5 : W5.heap.size = w.heap.size + 5 := by rw [hW5]; simp [hz3]
  have x5 : Hid _ := Lib.hid (hW5 ▸ (two_new W3 _ _))
  have y2 := (B5.block (w.heap.size + 2) (by omega)).trans x3.out.1
  have Y2 := Lib.hid y2
  have HB5 := Lib.hid (HB3.out.trans (B5.mono (by omega)))
  have HW5 := Lib.hid hW5
  clear hW5 B5 y2
  go_enter Try.func30, Try.ntmps30
  go_wp2_with fail
  rw [← HW3.out, ← HW5.out]
  refine (ref_undo_bad W5).mono ?_
  rintro e w6 ⟨rfl, L6⟩
  unfold bad
  have hz6 := L6.size
  have r6 := (L6.block (w.heap.size + 2) (by omega)).trans Y2.out
  have t6 := (L6.block (w.heap.size + 3) (by omega)).trans (hz3 ▸ x5.out.2)
  have u6 := (L6.block (w.heap.size + 4) (by omega)).trans (hz3 ▸ x5.out.1)
  have HB6 := Lib.hid (HB5.out.trans (L6.mono (by omega)))
  obtain ⟨⟨p0, p1, p2, p3, p4, p5, p6, p7, p8⟩, pf⟩ := nine t6
  have u60 := Pint.of_cells u6 0 _ rfl
  have u61 := Pint.of_cells u6 1 _ rfl
  have uf0 := Pint.no_ice u6 0
  have uf1 := Pint.no_ice u6 1
  have T6 := Lib.hid t6
  have U6 := Lib.hid u6
  have Q6 := Lib.hid r6
  rw [show w.heap.size + 3 = w.heap.size + 1 + 1 + 1 from rfl] at p0 p1 p2 p3 p4 p5 p6 p7 p8 pf
  rw [show w.heap.size + 4 = w.heap.size + 1 + 1 + 1 + 1 from rfl] at u60 u61 uf0 uf1
  clear t6 u6 r6 L6
  go_wp2_with fail
  obtain ⟨Wa, hWa, a1, a2, a3, a4, a5⟩ := end_nine w6 (w.heap.size + 1 + 1 + 1) w.heap.size (by omega) _ _ _ _ _ _ _ _ _ T6.out (.bool true) (.int .i64 0) (.int .i64 0) (.slice none 0 0) (.slice none 0 0) (.bool false) (.string ⟨#[]⟩) (.int .i64 0) (.bool false)
  rw [← hWa]
  obtain ⟨W7, hW7⟩ : ∃ W7, W7 = (Wa.setCell ⟨w.heap.size + 1 + 1 + 1 + 1, 0, none⟩ (.int .i64 0)).setCell ⟨w.heap.size + 1 + 1 + 1 + 1, 1, none⟩ (.string ⟨#[]⟩) := ⟨_, rfl⟩
  rw [← hW7]
  have ua := a4 _ _ _ U6.out (by decide)
  have t7 := far_two (g := w.heap.size + 1 + 1 + 1 + 1) (i := 0) (j := 1) (x := .int .i64 0) (y := .string ⟨#[]⟩) a1 (by omega)
  have u7 := Pint.set_row (i := 1) (v := .string ⟨#[]⟩) (Pint.set_row (i := 0) (v := .int .i64 0) ua)
  have r7 := far_two (g := w.heap.size + 1 + 1 + 1 + 1) (i := 0) (j := 1) (x := .int .i64 0) (y := .string ⟨#[]⟩) ((a5 (w.heap.size + 2) (by omega)).trans Q6.out) (by omega)
  have B7 := ((HB6.out.trans a2).setCell (p := ⟨w.heap.size + 1 + 1 + 1 + 1, 0, none⟩) (by show _ ≤ _ + 1 + 1 + 1 + 1; omega) (.int .i64 0)).setCell (p := ⟨w.heap.size + 1 + 1 + 1 + 1, 1, none⟩) (by show _ ≤ _ + 1 + 1 + 1 + 1; omega) (.string ⟨#[]⟩)
  rw [← hW7] at t7 r7 u7 B7 
  have hl7 := (Array.getElem?_eq_some_iff.1 u7).1
  have T7 := Lib.hid t7
  have Q7 := Lib.hid r7
  have HB7 := Lib.hid B7
  clear hWa a1 a2 a3 a4 a5 ua t7 u7 r7 B7 p0 p1 p2 p3 p4 p5 p6 p7 p8 pf u60 u61 uf0 uf1 hW7
  refine (nil_int_Undo W7).mono ?_
  rintro e w8 ⟨rfl, L8⟩
  have t8 := (L8.block _ (by omega)).trans T7.out
  have r8 := (L8.block _ (by omega)).trans Q7.out
  obtain ⟨⟨p0, p1, p2, p3, p4, p5, p6, p7, p8⟩, pf⟩ := nine t8
  obtain ⟨⟨q0, q1, q2, q3, q4, q5, q6, q7, q8⟩, qf⟩ := nine r8
  rw [show w.heap.size + 2 = w.heap.size + 1 + 1 from rfl] at q0 q1 q2 q3 q4 q5 q6 q7 q8 qf
  have Q8 := Lib.hid r8
  have T8 := Lib.hid t8
  have hz8 := L8.size
  have HB8 := Lib.hid (HB7.out.trans (L8.mono (by omega)))
  clear t8 r8 L8
  go_wp2_with fail
  obtain ⟨W9, hW9, f1, f2, f3, f4, _⟩ := end_nine w8 (w.heap.size + 1 + 1) w.heap.size (by omega) _ _ _ _ _ _ _ _ _ Q8.out (.bool true) (.int .i64 0) (.int .i64 0) (.slice none 0 0) (.slice none 0 0) (.bool false) (.string ⟨#[]⟩) (.int .i64 0) (.bool false)
  rw [← hW9]
  clear hW9
  refine bodyPost_ret (ret_rt (fn := Try.f30) rfl _ _ (w.heap.size + 1 + 1) _ _ _ _ _ _ _ _ _ (by rfl) f1) (by rfl) ?_
  exact ⟨by simp [bad], (HB8.out.trans f2)⟩

set_option maxRecDepth 100000 in
set_option maxHeartbeats 4000000 in
theorem bad_redo_int (w : World) (s : Int) (wd : ByteArray)  :
    Calls Try.prog 30 #[.pointer none, .agg #[.bool true, .int .i64 0, .int .i64 0, .slice none 0 0, .slice none 0 0, .bool false, .string ⟨#[]⟩, .int .i64 0, .bool false], .agg #[.int .i64 3, .int .i64 s, .string wd], .func (.func 12) #[] #[]] w
      fun e w' => e = .returned (.tuple #[bad, .bool true]) ∧ Below w.heap.size w w' := by
  obtain ⟨W3, hW3⟩ : ∃ W3, W3 = ((w.alloc (.cells #[.bool true, .int .i64 0, .int .i64 0, .slice none 0 0, .slice none 0 0, .bool false, .string ⟨#[]⟩, .int .i64 0, .bool false] 64)).alloc (.cells #[.int .i64 3, .int .i64 s, .string wd] 68)).alloc (.cells #[.bool false, .int .i64 0, .int .i64 0, .slice none 0 0, .slice none 0 0, .bool false, .string ⟨#[]⟩, .int .i64 0, .bool false] 64) := ⟨_, rfl⟩
  have B3 : Below w.heap.size w W3 := by rw [hW3]; exact below_three w _ _ _
  have hz3 : W3.heap.size = w.heap.size + 3 := by rw [hW3]; simp
  have x3 : Hid _ := Lib.hid (hW3 ▸ (three_new w _ _ _))
  have HB3 := Lib.hid B3
  have HW3 := Lib.hid hW3
  clear hW3 B3
  obtain ⟨W5, hW5⟩ : ∃ W5, W5 = (W3.alloc (.cells #[.bool false, .int .i64 0, .int .i64 0, .slice none 0 0, .slice none 0 0, .bool false, .string ⟨#[]⟩, .int .i64 0, .bool false] 64)).alloc (.cells #[.int .i64 0, .string ⟨#[]⟩] 98) := ⟨_, rfl⟩
  have B5 : Below W3.heap.size W3 W5 := by rw [hW5]; exact below_two W3 _ _
  have hz5 : W5.heap.size = w.heap.size + 5 := by rw [hW5]; simp [hz3]
  have x5 : Hid _ := Lib.hid (hW5 ▸ (two_new W3 _ _))
  have y2 := (B5.block (w.heap.size + 2) (by omega)).trans x3.out.1
  have Y2 := Lib.hid y2
  have HB5 := Lib.hid (HB3.out.trans (B5.mono (by omega)))
  have HW5 := Lib.hid hW5
  clear hW5 B5 y2
  go_enter Try.func30, Try.ntmps30
  go_wp2_with fail
  rw [← HW3.out, ← HW5.out]
  refine (ref_redo_bad W5).mono ?_
  rintro e w6 ⟨rfl, L6⟩
  unfold bad
  have hz6 := L6.size
  have r6 := (L6.block (w.heap.size + 2) (by omega)).trans Y2.out
  have t6 := (L6.block (w.heap.size + 3) (by omega)).trans (hz3 ▸ x5.out.2)
  have u6 := (L6.block (w.heap.size + 4) (by omega)).trans (hz3 ▸ x5.out.1)
  have HB6 := Lib.hid (HB5.out.trans (L6.mono (by omega)))
  obtain ⟨⟨p0, p1, p2, p3, p4, p5, p6, p7, p8⟩, pf⟩ := nine t6
  have u60 := Pint.of_cells u6 0 _ rfl
  have u61 := Pint.of_cells u6 1 _ rfl
  have uf0 := Pint.no_ice u6 0
  have uf1 := Pint.no_ice u6 1
  have T6 := Lib.hid t6
  have U6 := Lib.hid u6
  have Q6 := Lib.hid r6
  rw [show w.heap.size + 3 = w.heap.size + 1 + 1 + 1 from rfl] at p0 p1 p2 p3 p4 p5 p6 p7 p8 pf
  rw [show w.heap.size + 4 = w.heap.size + 1 + 1 + 1 + 1 from rfl] at u60 u61 uf0 uf1
  clear t6 u6 r6 L6
  go_wp2_with fail
  obtain ⟨Wa, hWa, a1, a2, a3, a4, a5⟩ := end_nine w6 (w.heap.size + 1 + 1 + 1) w.heap.size (by omega) _ _ _ _ _ _ _ _ _ T6.out (.bool true) (.int .i64 0) (.int .i64 0) (.slice none 0 0) (.slice none 0 0) (.bool false) (.string ⟨#[]⟩) (.int .i64 0) (.bool false)
  rw [← hWa]
  obtain ⟨W7, hW7⟩ : ∃ W7, W7 = (Wa.setCell ⟨w.heap.size + 1 + 1 + 1 + 1, 0, none⟩ (.int .i64 0)).setCell ⟨w.heap.size + 1 + 1 + 1 + 1, 1, none⟩ (.string ⟨#[]⟩) := ⟨_, rfl⟩
  rw [← hW7]
  have ua := a4 _ _ _ U6.out (by decide)
  have t7 := far_two (g := w.heap.size + 1 + 1 + 1 + 1) (i := 0) (j := 1) (x := .int .i64 0) (y := .string ⟨#[]⟩) a1 (by omega)
  have u7 := Pint.set_row (i := 1) (v := .string ⟨#[]⟩) (Pint.set_row (i := 0) (v := .int .i64 0) ua)
  have r7 := far_two (g := w.heap.size + 1 + 1 + 1 + 1) (i := 0) (j := 1) (x := .int .i64 0) (y := .string ⟨#[]⟩) ((a5 (w.heap.size + 2) (by omega)).trans Q6.out) (by omega)
  have B7 := ((HB6.out.trans a2).setCell (p := ⟨w.heap.size + 1 + 1 + 1 + 1, 0, none⟩) (by show _ ≤ _ + 1 + 1 + 1 + 1; omega) (.int .i64 0)).setCell (p := ⟨w.heap.size + 1 + 1 + 1 + 1, 1, none⟩) (by show _ ≤ _ + 1 + 1 + 1 + 1; omega) (.string ⟨#[]⟩)
  rw [← hW7] at t7 r7 u7 B7 
  have hl7 := (Array.getElem?_eq_some_iff.1 u7).1
  have T7 := Lib.hid t7
  have Q7 := Lib.hid r7
  have HB7 := Lib.hid B7
  clear hWa a1 a2 a3 a4 a5 ua t7 u7 r7 B7 p0 p1 p2 p3 p4 p5 p6 p7 p8 pf u60 u61 uf0 uf1 hW7
  refine (nil_int_Redo W7).mono ?_
  rintro e w8 ⟨rfl, L8⟩
  have t8 := (L8.block _ (by omega)).trans T7.out
  have r8 := (L8.block _ (by omega)).trans Q7.out
  obtain ⟨⟨p0, p1, p2, p3, p4, p5, p6, p7, p8⟩, pf⟩ := nine t8
  obtain ⟨⟨q0, q1, q2, q3, q4, q5, q6, q7, q8⟩, qf⟩ := nine r8
  rw [show w.heap.size + 2 = w.heap.size + 1 + 1 from rfl] at q0 q1 q2 q3 q4 q5 q6 q7 q8 qf
  have Q8 := Lib.hid r8
  have T8 := Lib.hid t8
  have hz8 := L8.size
  have HB8 := Lib.hid (HB7.out.trans (L8.mono (by omega)))
  clear t8 r8 L8
  go_wp2_with fail
  obtain ⟨W9, hW9, f1, f2, f3, f4, _⟩ := end_nine w8 (w.heap.size + 1 + 1) w.heap.size (by omega) _ _ _ _ _ _ _ _ _ Q8.out (.bool true) (.int .i64 0) (.int .i64 0) (.slice none 0 0) (.slice none 0 0) (.bool false) (.string ⟨#[]⟩) (.int .i64 0) (.bool false)
  rw [← hW9]
  clear hW9
  refine bodyPost_ret (ret_rt (fn := Try.f30) rfl _ _ (w.heap.size + 1 + 1) _ _ _ _ _ _ _ _ _ (by rfl) f1) (by rfl) ?_
  exact ⟨by simp [bad], (HB8.out.trans f2)⟩
end Go.Proofs.Ytihfkoomimohbaa
