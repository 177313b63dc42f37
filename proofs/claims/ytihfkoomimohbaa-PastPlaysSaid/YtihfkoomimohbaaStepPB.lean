/- The statements' step: Begin, End, Forget, and no call (pair). -/
import Derived.Test.YtihfkoomimohbaaStepW
namespace Go.Proofs.Ytihfkoomimohbaa
open Go.RowKit Past17


set_option maxRecDepth 100000 in
set_option maxHeartbeats 4000000 in
theorem step_begin_pair (w : World) (base b : Nat) (m : Pst Int) (A1 : Option Addr) (c1 : Nat) (A2 : Option Addr) (c2 : Nat) (op : Bool) (word : ByteArray) (frm : Int) (done : Bool) (s : Int) (wd : ByteArray) 
    (hP : Ppair.Past w base b (mapP pf m)) (hR : RAt w m (.agg #[.bool false, .int .i64 m.st, .int .i64 m.most, .slice A1 m.back.length c1, .slice A2 m.again.length c2, .bool op, .string word, .int .i64 frm, .bool done])) :
    Calls Try.prog 33 #[.pointer (some ⟨b, 0, none⟩), .agg #[.bool false, .int .i64 m.st, .int .i64 m.most, .slice A1 m.back.length c1, .slice A2 m.again.length c2, .bool op, .string word, .int .i64 frm, .bool done], .agg #[.int .i64 4, .int .i64 s, .string wd], .func (.func 14) #[] #[]] w
      fun e w' => ∃ vm' m', e = .returned (.tuple #[vm', .bool true]) ∧ Ppair.Past w' base b (mapP pf m') ∧ RAt w' m' vm' ∧ Ppair.Spares w w' ∧ Below base w w' := by
  have hbase : base ≤ w.heap.size := by have := hP.size; omega
  obtain ⟨W3, hW3⟩ : ∃ W3, W3 = ((w.alloc (.cells #[.bool false, .int .i64 m.st, .int .i64 m.most, .slice A1 m.back.length c1, .slice A2 m.again.length c2, .bool op, .string word, .int .i64 frm, .bool done] 64)).alloc (.cells #[.int .i64 4, .int .i64 s, .string wd] 68)).alloc (.cells #[.bool false, .int .i64 0, .int .i64 0, .slice none 0 0, .slice none 0 0, .bool false, .string ⟨#[]⟩, .int .i64 0, .bool false] 64) := ⟨_, rfl⟩
  have B3 : Below w.heap.size w W3 := by rw [hW3]; exact below_three w _ _ _
  have hz3 : W3.heap.size = w.heap.size + 3 := by rw [hW3]; simp
  have x3 : Hid _ := Lib.hid (hW3 ▸ (three_new w _ _ _))
  have HP := Lib.hid (hP.below B3)
  have HR := Lib.hid (hR.stays (Stays.of_below B3))
  have HB3 := Lib.hid (B3.mono hbase)
  have G3 := Lib.hid ((Ppair.Spares.refl w).below B3)
  have HW3 := Lib.hid hW3
  clear hP hR hW3 B3
  go_enter Try.func33, Try.ntmps33
  go_wp2_with fail
  rw [← HW3.out]
  refine (ref_begin W3 m _ wd HR.out).mono ?_
  rintro e w4 ⟨vm', rfl, R4, L4⟩
  obtain ⟨m', hm'⟩ : ∃ m', m' = beginP m wd := ⟨_, rfl⟩
  rw [← hm'] at R4
  obtain ⟨vb, va, word', frm', done', rfl, h4⟩ := R4
  obtain ⟨A3, c3, rfl⟩ := h4.rb.form
  obtain ⟨A4, c4, rfl⟩ := h4.ra.form
  unfold rv
  obtain ⟨W5, hW5⟩ : ∃ W5, W5 = w4.alloc (.cells #[.bool false, .int .i64 m'.st, .int .i64 m'.most, .slice A3 m'.back.length c3, .slice A4 m'.again.length c4, .bool m'.opn.isSome, .string word', .int .i64 frm', .bool done'] 64) := ⟨_, rfl⟩
  have B5 : Below w4.heap.size w4 W5 := by rw [hW5]; exact (Below.refl _ w4).alloc (Nat.le_refl _) _
  have hz4 := L4.size
  have t5 : W5.heap[w4.heap.size]? = some (.cells #[.bool false, .int .i64 m'.st, .int .i64 m'.most, .slice A3 m'.back.length c3, .slice A4 m'.again.length c4, .bool m'.opn.isSome, .string word', .int .i64 frm', .bool done'] 64 (0, 0)) := by rw [hW5]; exact World.alloc_heap_new w4 _
  have u5 := (B5.block (w.heap.size + 1) (by omega)).trans ((L4.block _ (by omega)).trans x3.out.2.1)
  have r5 := (B5.block (w.heap.size + 2) (by omega)).trans ((L4.block _ (by omega)).trans x3.out.1)
  have P5 : Hid (Ppair.Past W5.drew base b (mapP pf m)) := Lib.hid (((HP.out.below L4).below B5).below ((Below.refl _ W5).drew))
  have R5 : Hid (RP W5 m' (.slice A3 m'.back.length c3) (.slice A4 m'.again.length c4) word' frm' done') := Lib.hid (h4.stays (Stays.of_below B5))
  have HB5 := Lib.hid ((HB3.out.trans (L4.mono (by omega))).trans (B5.mono (by omega)))
  have G5 := Lib.hid ((G3.out.below (L4.mono (by omega))).below (B5.mono (by omega)))
  have hz5 := B5.size
  have ht5 := (Array.getElem?_eq_some_iff.1 t5).1
  have HW5 := Lib.hid hW5
  have HM := Lib.hid hm'
  obtain ⟨⟨p0, p1, p2, p3, p4, p5, p6, p7, p8⟩, pf⟩ := nine t5
  obtain ⟨⟨q0, q1, q2, q3, q4, q5, q6, q7, q8⟩, qf⟩ := nine r5
  have o1 := Pint.of_cells u5 1 _ rfl
  have o2 := Pint.of_cells u5 2 _ rfl
  have T5 := Lib.hid t5
  have U5 := Lib.hid u5
  have Q5 := Lib.hid r5
  clear hW5 B5 t5 u5 r5 h4 L4 hm'
  go_wp2_with fail
  rw [← HW5.out]
  go_region_with (go_at_call 52; (with_reducible refine (pair_begin _ base b m wd P5.out).mono ?_); rintro e w6 ⟨rfl, P6, S6, L6⟩; have t6 := S6 _ _ _ _ T5.out (by decide) (by decide) (by decide); have r6 := S6 _ _ _ _ Q5.out (by decide) (by decide) (by decide); clear p0 p1 p2 p3 p4 p5 p6 p7 p8 pf q0 q1 q2 q3 q4 q5 q6 q7 q8 qf; obtain ⟨⟨p0, p1, p2, p3, p4, p5, p6, p7, p8⟩, pf⟩ := nine t6; obtain ⟨⟨q0, q1, q2, q3, q4, q5, q6, q7, q8⟩, qf⟩ := nine r6; have Q6 := Lib.hid r6; have HP6 := Lib.hid P6; have HS6 := Lib.hid S6; have HL6 := Lib.hid L6; clear P6 S6 L6 t6 r6)
  all_goals
    go_wp2_with fail
    obtain ⟨W7, hW7, f1, f2, f3, f4, _⟩ := end_nine w6 (w.heap.size + 1 + 1) w.heap.size (by omega) _ _ _ _ _ _ _ _ _ Q6.out (.bool false) (.int .i64 m'.st) (.int .i64 m'.most) (.slice A3 m'.back.length c3) (.slice A4 m'.again.length c4) (.bool m'.opn.isSome) (.string word') (.int .i64 frm') (.bool done')
    rw [← hW7]
    clear hW7
    refine bodyPost_ret (ret_rt (fn := Try.f33) rfl _ _ (w.heap.size + 1 + 1) _ _ _ _ _ _ _ _ _ (by rfl) f1) (by rfl) ?_
    refine ⟨_, m', by simp [Act.put, rv], ?_, ⟨_, _, word', frm', done', rfl, (R5.out.stays (Stays.trans (fun _ _ e => e) HS6.out.stays)).stays f3⟩, (Ppair.Spares.trans (show Ppair.Spares w W5.drew from G5.out) HS6.out).below f2, (HB5.out.drew.trans HL6.out).trans (f2.mono hbase)⟩
    rw [HM.out]
    exact HP6.out.others (fun g cs t h h1 _ _ => f4 g cs t h h1)

set_option maxRecDepth 100000 in
set_option maxHeartbeats 4000000 in
theorem step_end_pair (w : World) (base b : Nat) (m : Pst Int) (A1 : Option Addr) (c1 : Nat) (A2 : Option Addr) (c2 : Nat) (op : Bool) (word : ByteArray) (frm : Int) (done : Bool) (s : Int) (wd : ByteArray) 
    (hP : Ppair.Past w base b (mapP pf m)) (hR : RAt w m (.agg #[.bool false, .int .i64 m.st, .int .i64 m.most, .slice A1 m.back.length c1, .slice A2 m.again.length c2, .bool op, .string word, .int .i64 frm, .bool done])) :
    Calls Try.prog 33 #[.pointer (some ⟨b, 0, none⟩), .agg #[.bool false, .int .i64 m.st, .int .i64 m.most, .slice A1 m.back.length c1, .slice A2 m.again.length c2, .bool op, .string word, .int .i64 frm, .bool done], .agg #[.int .i64 5, .int .i64 s, .string wd], .func (.func 14) #[] #[]] w
      fun e w' => ∃ vm' m', e = .returned (.tuple #[vm', .bool true]) ∧ Ppair.Past w' base b (mapP pf m') ∧ RAt w' m' vm' ∧ Ppair.Spares w w' ∧ Below base w w' := by
  have hbase : base ≤ w.heap.size := by have := hP.size; omega
  obtain ⟨W3, hW3⟩ : ∃ W3, W3 = ((w.alloc (.cells #[.bool false, .int .i64 m.st, .int .i64 m.most, .slice A1 m.back.length c1, .slice A2 m.again.length c2, .bool op, .string word, .int .i64 frm, .bool done] 64)).alloc (.cells #[.int .i64 5, .int .i64 s, .string wd] 68)).alloc (.cells #[.bool false, .int .i64 0, .int .i64 0, .slice none 0 0, .slice none 0 0, .bool false, .string ⟨#[]⟩, .int .i64 0, .bool false] 64) := ⟨_, rfl⟩
  have B3 : Below w.heap.size w W3 := by rw [hW3]; exact below_three w _ _ _
  have hz3 : W3.heap.size = w.heap.size + 3 := by rw [hW3]; simp
  have x3 : Hid _ := Lib.hid (hW3 ▸ (three_new w _ _ _))
  have HP := Lib.hid (hP.below B3)
  have HR := Lib.hid (hR.stays (Stays.of_below B3))
  have HB3 := Lib.hid (B3.mono hbase)
  have G3 := Lib.hid ((Ppair.Spares.refl w).below B3)
  have HW3 := Lib.hid hW3
  clear hP hR hW3 B3
  go_enter Try.func33, Try.ntmps33
  go_wp2_with fail
  rw [← HW3.out]
  refine (ref_end W3 m _ HR.out).mono ?_
  rintro e w4 ⟨vm', rfl, R4, L4⟩
  obtain ⟨m', hm'⟩ : ∃ m', m' = endP m := ⟨_, rfl⟩
  rw [← hm'] at R4
  obtain ⟨vb, va, word', frm', done', rfl, h4⟩ := R4
  obtain ⟨A3, c3, rfl⟩ := h4.rb.form
  obtain ⟨A4, c4, rfl⟩ := h4.ra.form
  unfold rv
  obtain ⟨W5, hW5⟩ : ∃ W5, W5 = w4.alloc (.cells #[.bool false, .int .i64 m'.st, .int .i64 m'.most, .slice A3 m'.back.length c3, .slice A4 m'.again.length c4, .bool m'.opn.isSome, .string word', .int .i64 frm', .bool done'] 64) := ⟨_, rfl⟩
  have B5 : Below w4.heap.size w4 W5 := by rw [hW5]; exact (Below.refl _ w4).alloc (Nat.le_refl _) _
  have hz4 := L4.size
  have t5 : W5.heap[w4.heap.size]? = some (.cells #[.bool false, .int .i64 m'.st, .int .i64 m'.most, .slice A3 m'.back.length c3, .slice A4 m'.again.length c4, .bool m'.opn.isSome, .string word', .int .i64 frm', .bool done'] 64 (0, 0)) := by rw [hW5]; exact World.alloc_heap_new w4 _
  have u5 := (B5.block (w.heap.size + 1) (by omega)).trans ((L4.block _ (by omega)).trans x3.out.2.1)
  have r5 := (B5.block (w.heap.size + 2) (by omega)).trans ((L4.block _ (by omega)).trans x3.out.1)
  have P5 : Hid (Ppair.Past W5.drew base b (mapP pf m)) := Lib.hid (((HP.out.below L4).below B5).below ((Below.refl _ W5).drew))
  have R5 : Hid (RP W5 m' (.slice A3 m'.back.length c3) (.slice A4 m'.again.length c4) word' frm' done') := Lib.hid (h4.stays (Stays.of_below B5))
  have HB5 := Lib.hid ((HB3.out.trans (L4.mono (by omega))).trans (B5.mono (by omega)))
  have G5 := Lib.hid ((G3.out.below (L4.mono (by omega))).below (B5.mono (by omega)))
  have hz5 := B5.size
  have ht5 := (Array.getElem?_eq_some_iff.1 t5).1
  have HW5 := Lib.hid hW5
  have HM := Lib.hid hm'
  obtain ⟨⟨p0, p1, p2, p3, p4, p5, p6, p7, p8⟩, pf⟩ := nine t5
  obtain ⟨⟨q0, q1, q2, q3, q4, q5, q6, q7, q8⟩, qf⟩ := nine r5
  have o1 := Pint.of_cells u5 1 _ rfl
  have o2 := Pint.of_cells u5 2 _ rfl
  have T5 := Lib.hid t5
  have U5 := Lib.hid u5
  have Q5 := Lib.hid r5
  clear hW5 B5 t5 u5 r5 h4 L4 hm'
  go_wp2_with fail
  rw [← HW5.out]
  go_region_with (go_at_call 53; (with_reducible refine (pair_end _ base b m P5.out).mono ?_); rintro e w6 ⟨rfl, P6, S6, L6⟩; have t6 := S6 _ _ _ _ T5.out (by decide) (by decide) (by decide); have r6 := S6 _ _ _ _ Q5.out (by decide) (by decide) (by decide); clear p0 p1 p2 p3 p4 p5 p6 p7 p8 pf q0 q1 q2 q3 q4 q5 q6 q7 q8 qf; obtain ⟨⟨p0, p1, p2, p3, p4, p5, p6, p7, p8⟩, pf⟩ := nine t6; obtain ⟨⟨q0, q1, q2, q3, q4, q5, q6, q7, q8⟩, qf⟩ := nine r6; have Q6 := Lib.hid r6; have HP6 := Lib.hid P6; have HS6 := Lib.hid S6; have HL6 := Lib.hid L6; clear P6 S6 L6 t6 r6)
  all_goals
    go_wp2_with fail
    obtain ⟨W7, hW7, f1, f2, f3, f4, _⟩ := end_nine w6 (w.heap.size + 1 + 1) w.heap.size (by omega) _ _ _ _ _ _ _ _ _ Q6.out (.bool false) (.int .i64 m'.st) (.int .i64 m'.most) (.slice A3 m'.back.length c3) (.slice A4 m'.again.length c4) (.bool m'.opn.isSome) (.string word') (.int .i64 frm') (.bool done')
    rw [← hW7]
    clear hW7
    refine bodyPost_ret (ret_rt (fn := Try.f33) rfl _ _ (w.heap.size + 1 + 1) _ _ _ _ _ _ _ _ _ (by rfl) f1) (by rfl) ?_
    refine ⟨_, m', by simp [Act.put, rv], ?_, ⟨_, _, word', frm', done', rfl, (R5.out.stays (Stays.trans (fun _ _ e => e) HS6.out.stays)).stays f3⟩, (Ppair.Spares.trans (show Ppair.Spares w W5.drew from G5.out) HS6.out).below f2, (HB5.out.drew.trans HL6.out).trans (f2.mono hbase)⟩
    rw [HM.out]
    exact HP6.out.others (fun g cs t h h1 _ _ => f4 g cs t h h1)

set_option maxRecDepth 100000 in
set_option maxHeartbeats 4000000 in
theorem step_forget_pair (w : World) (base b : Nat) (m : Pst Int) (A1 : Option Addr) (c1 : Nat) (A2 : Option Addr) (c2 : Nat) (op : Bool) (word : ByteArray) (frm : Int) (done : Bool) (s : Int) (wd : ByteArray) 
    (hP : Ppair.Past w base b (mapP pf m)) (hR : RAt w m (.agg #[.bool false, .int .i64 m.st, .int .i64 m.most, .slice A1 m.back.length c1, .slice A2 m.again.length c2, .bool op, .string word, .int .i64 frm, .bool done])) :
    Calls Try.prog 33 #[.pointer (some ⟨b, 0, none⟩), .agg #[.bool false, .int .i64 m.st, .int .i64 m.most, .slice A1 m.back.length c1, .slice A2 m.again.length c2, .bool op, .string word, .int .i64 frm, .bool done], .agg #[.int .i64 6, .int .i64 s, .string wd], .func (.func 14) #[] #[]] w
      fun e w' => ∃ vm' m', e = .returned (.tuple #[vm', .bool true]) ∧ Ppair.Past w' base b (mapP pf m') ∧ RAt w' m' vm' ∧ Ppair.Spares w w' ∧ Below base w w' := by
  have hbase : base ≤ w.heap.size := by have := hP.size; omega
  obtain ⟨W3, hW3⟩ : ∃ W3, W3 = ((w.alloc (.cells #[.bool false, .int .i64 m.st, .int .i64 m.most, .slice A1 m.back.length c1, .slice A2 m.again.length c2, .bool op, .string word, .int .i64 frm, .bool done] 64)).alloc (.cells #[.int .i64 6, .int .i64 s, .string wd] 68)).alloc (.cells #[.bool false, .int .i64 0, .int .i64 0, .slice none 0 0, .slice none 0 0, .bool false, .string ⟨#[]⟩, .int .i64 0, .bool false] 64) := ⟨_, rfl⟩
  have B3 : Below w.heap.size w W3 := by rw [hW3]; exact below_three w _ _ _
  have hz3 : W3.heap.size = w.heap.size + 3 := by rw [hW3]; simp
  have x3 : Hid _ := Lib.hid (hW3 ▸ (three_new w _ _ _))
  have HP := Lib.hid (hP.below B3)
  have HR := Lib.hid (hR.stays (Stays.of_below B3))
  have HB3 := Lib.hid (B3.mono hbase)
  have G3 := Lib.hid ((Ppair.Spares.refl w).below B3)
  have HW3 := Lib.hid hW3
  clear hP hR hW3 B3
  go_enter Try.func33, Try.ntmps33
  go_wp2_with fail
  rw [← HW3.out]
  refine (ref_forget W3 m _ HR.out).mono ?_
  rintro e w4 ⟨vm', rfl, R4, L4⟩
  obtain ⟨m', hm'⟩ : ∃ m', m' = forgetP m := ⟨_, rfl⟩
  rw [← hm'] at R4
  obtain ⟨vb, va, word', frm', done', rfl, h4⟩ := R4
  obtain ⟨A3, c3, rfl⟩ := h4.rb.form
  obtain ⟨A4, c4, rfl⟩ := h4.ra.form
  unfold rv
  obtain ⟨W5, hW5⟩ : ∃ W5, W5 = w4.alloc (.cells #[.bool false, .int .i64 m'.st, .int .i64 m'.most, .slice A3 m'.back.length c3, .slice A4 m'.again.length c4, .bool m'.opn.isSome, .string word', .int .i64 frm', .bool done'] 64) := ⟨_, rfl⟩
  have B5 : Below w4.heap.size w4 W5 := by rw [hW5]; exact (Below.refl _ w4).alloc (Nat.le_refl _) _
  have hz4 := L4.size
  have t5 : W5.heap[w4.heap.size]? = some (.cells #[.bool false, .int .i64 m'.st, .int .i64 m'.most, .slice A3 m'.back.length c3, .slice A4 m'.again.length c4, .bool m'.opn.isSome, .string word', .int .i64 frm', .bool done'] 64 (0, 0)) := by rw [hW5]; exact World.alloc_heap_new w4 _
  have u5 := (B5.block (w.heap.size + 1) (by omega)).trans ((L4.block _ (by omega)).trans x3.out.2.1)
  have r5 := (B5.block (w.heap.size + 2) (by omega)).trans ((L4.block _ (by omega)).trans x3.out.1)
  have P5 : Hid (Ppair.Past W5.drew base b (mapP pf m)) := Lib.hid (((HP.out.below L4).below B5).below ((Below.refl _ W5).drew))
  have R5 : Hid (RP W5 m' (.slice A3 m'.back.length c3) (.slice A4 m'.again.length c4) word' frm' done') := Lib.hid (h4.stays (Stays.of_below B5))
  have HB5 := Lib.hid ((HB3.out.trans (L4.mono (by omega))).trans (B5.mono (by omega)))
  have G5 := Lib.hid ((G3.out.below (L4.mono (by omega))).below (B5.mono (by omega)))
  have hz5 := B5.size
  have ht5 := (Array.getElem?_eq_some_iff.1 t5).1
  have HW5 := Lib.hid hW5
  have HM := Lib.hid hm'
  obtain ⟨⟨p0, p1, p2, p3, p4, p5, p6, p7, p8⟩, pf⟩ := nine t5
  obtain ⟨⟨q0, q1, q2, q3, q4, q5, q6, q7, q8⟩, qf⟩ := nine r5
  have o1 := Pint.of_cells u5 1 _ rfl
  have o2 := Pint.of_cells u5 2 _ rfl
  have T5 := Lib.hid t5
  have U5 := Lib.hid u5
  have Q5 := Lib.hid r5
  clear hW5 B5 t5 u5 r5 h4 L4 hm'
  go_wp2_with fail
  rw [← HW5.out]
  go_region_with (go_at_call 54; (with_reducible refine (pair_forget _ base b m P5.out).mono ?_); rintro e w6 ⟨rfl, P6, S6, L6⟩; have t6 := S6 _ _ _ _ T5.out (by decide) (by decide) (by decide); have r6 := S6 _ _ _ _ Q5.out (by decide) (by decide) (by decide); clear p0 p1 p2 p3 p4 p5 p6 p7 p8 pf q0 q1 q2 q3 q4 q5 q6 q7 q8 qf; obtain ⟨⟨p0, p1, p2, p3, p4, p5, p6, p7, p8⟩, pf⟩ := nine t6; obtain ⟨⟨q0, q1, q2, q3, q4, q5, q6, q7, q8⟩, qf⟩ := nine r6; have Q6 := Lib.hid r6; have HP6 := Lib.hid P6; have HS6 := Lib.hid S6; have HL6 := Lib.hid L6; clear P6 S6 L6 t6 r6)
  all_goals
    go_wp2_with fail
    obtain ⟨W7, hW7, f1, f2, f3, f4, _⟩ := end_nine w6 (w.heap.size + 1 + 1) w.heap.size (by omega) _ _ _ _ _ _ _ _ _ Q6.out (.bool false) (.int .i64 m'.st) (.int .i64 m'.most) (.slice A3 m'.back.length c3) (.slice A4 m'.again.length c4) (.bool m'.opn.isSome) (.string word') (.int .i64 frm') (.bool done')
    rw [← hW7]
    clear hW7
    refine bodyPost_ret (ret_rt (fn := Try.f33) rfl _ _ (w.heap.size + 1 + 1) _ _ _ _ _ _ _ _ _ (by rfl) f1) (by rfl) ?_
    refine ⟨_, m', by simp [Act.put, rv], ?_, ⟨_, _, word', frm', done', rfl, (R5.out.stays (Stays.trans (fun _ _ e => e) HS6.out.stays)).stays f3⟩, (Ppair.Spares.trans (show Ppair.Spares w W5.drew from G5.out) HS6.out).below f2, (HB5.out.drew.trans HL6.out).trans (f2.mono hbase)⟩
    rw [HM.out]
    exact HP6.out.others (fun g cs t h h1 _ _ => f4 g cs t h h1)

set_option maxRecDepth 100000 in
set_option maxHeartbeats 4000000 in
theorem step_none_pair (w : World) (base b : Nat) (m : Pst Int) (A1 : Option Addr) (c1 : Nat) (A2 : Option Addr) (c2 : Nat) (op : Bool) (word : ByteArray) (frm : Int) (done : Bool) (s : Int) (wd : ByteArray) (k : Int) (k1 : k ≠ 1) (k2 : k ≠ 2) (k3 : k ≠ 3) (k4 : k ≠ 4) (k5 : k ≠ 5) (k6 : k ≠ 6)
    (hP : Ppair.Past w base b (mapP pf m)) (hR : RAt w m (.agg #[.bool false, .int .i64 m.st, .int .i64 m.most, .slice A1 m.back.length c1, .slice A2 m.again.length c2, .bool op, .string word, .int .i64 frm, .bool done])) :
    Calls Try.prog 33 #[.pointer (some ⟨b, 0, none⟩), .agg #[.bool false, .int .i64 m.st, .int .i64 m.most, .slice A1 m.back.length c1, .slice A2 m.again.length c2, .bool op, .string word, .int .i64 frm, .bool done], .agg #[.int .i64 k, .int .i64 s, .string wd], .func (.func 14) #[] #[]] w
      fun e w' => ∃ vm' m', e = .returned (.tuple #[vm', .bool true]) ∧ Ppair.Past w' base b (mapP pf m') ∧ RAt w' m' vm' ∧ Ppair.Spares w w' ∧ Below base w w' := by
  have hP' := hP
  have hR' := hR
  have f1 : (k == 1) = false := beq_eq_false_iff_ne.2 k1
  have f2 : (k == 2) = false := beq_eq_false_iff_ne.2 k2
  have f3 : (k == 3) = false := beq_eq_false_iff_ne.2 k3
  have f4 : (k == 4) = false := beq_eq_false_iff_ne.2 k4
  have f5 : (k == 5) = false := beq_eq_false_iff_ne.2 k5
  have f6 : (k == 6) = false := beq_eq_false_iff_ne.2 k6
  have hbase : base ≤ w.heap.size := by have := hP.size; omega
  obtain ⟨W3, hW3⟩ : ∃ W3, W3 = ((w.alloc (.cells #[.bool false, .int .i64 m.st, .int .i64 m.most, .slice A1 m.back.length c1, .slice A2 m.again.length c2, .bool op, .string word, .int .i64 frm, .bool done] 64)).alloc (.cells #[.int .i64 k, .int .i64 s, .string wd] 68)).alloc (.cells #[.bool false, .int .i64 0, .int .i64 0, .slice none 0 0, .slice none 0 0, .bool false, .string ⟨#[]⟩, .int .i64 0, .bool false] 64) := ⟨_, rfl⟩
  have B3 : Below w.heap.size w W3 := by rw [hW3]; exact below_three w _ _ _
  have hz3 : W3.heap.size = w.heap.size + 3 := by rw [hW3]; simp
  have x3 : Hid _ := Lib.hid (hW3 ▸ (three_new w _ _ _))
  have HP := Lib.hid (hP.below B3)
  have HR := Lib.hid (hR.stays (Stays.of_below B3))
  have HB3 := Lib.hid (B3.mono hbase)
  have G3 := Lib.hid ((Ppair.Spares.refl w).below B3)
  have HW3 := Lib.hid hW3
  clear hP hR hW3 B3
  obtain ⟨W9, hW9⟩ : ∃ W9, W9 = ((w.alloc (.cells #[.bool false, .int .i64 m.st, .int .i64 m.most, .slice A1 m.back.length c1, .slice A2 m.again.length c2, .bool op, .string word, .int .i64 frm, .bool done] 64)).alloc (.cells #[.int .i64 k, .int .i64 s, .string wd] 68)).alloc (.cells #[.bool false, .int .i64 m.st, .int .i64 m.most, .slice A1 m.back.length c1, .slice A2 m.again.length c2, .bool op, .string word, .int .i64 frm, .bool done] 64) := ⟨_, rfl⟩
  have B9 : Below w.heap.size w W9 := by rw [hW9]; exact below_three w _ _ _
  have x9 : W9.heap[w.heap.size + 1 + 1]? = some (.cells #[.bool false, .int .i64 m.st, .int .i64 m.most, .slice A1 m.back.length c1, .slice A2 m.again.length c2, .bool op, .string word, .int .i64 frm, .bool done] 64 (0, 0)) := by rw [hW9]; exact (three_new w _ _ _).1
  have P9 := Lib.hid (hP'.below B9)
  have R9 := Lib.hid (hR'.stays (Stays.of_below B9))
  have HB9 := Lib.hid (B9.mono hbase)
  have G9 := Lib.hid ((Ppair.Spares.refl w).below B9)
  have HW9 := Lib.hid hW9
  have X9 := Lib.hid x9
  clear HW3 HP HR HB3 x3 hz3 hP' hR' hW9 B9 x9
  go_enter Try.func33, Try.ntmps33
  go_wp2_with fail
  rw [← HW9.out]
  refine bodyPost_ret (ret_rt (fn := Try.f33) rfl _ _ (w.heap.size + 1 + 1) _ _ _ _ _ _ _ _ _ (by rfl) X9.out) (by rfl) ?_
  exact ⟨_, m, by simp, P9.out, R9.out, G9.out, HB9.out⟩
end Go.Proofs.Ytihfkoomimohbaa
