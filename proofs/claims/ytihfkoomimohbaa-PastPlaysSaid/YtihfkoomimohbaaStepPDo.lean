/- The statements' step: Do (pair). -/
import Derived.Test.YtihfkoomimohbaaStepW
namespace Go.Proofs.Ytihfkoomimohbaa
open Go.RowKit Past17


set_option maxRecDepth 100000 in
set_option maxHeartbeats 4000000 in
theorem step_do_pair (w : World) (base b : Nat) (m : Pst Int) (A1 : Option Addr) (c1 : Nat) (A2 : Option Addr) (c2 : Nat) (op : Bool) (word : ByteArray) (frm : Int) (done : Bool) (s : Int) (wd : ByteArray) 
    (hP : Ppair.Past w base b (mapP pf m)) (hR : RAt w m (.agg #[.bool false, .int .i64 m.st, .int .i64 m.most, .slice A1 m.back.length c1, .slice A2 m.again.length c2, .bool op, .string word, .int .i64 frm, .bool done])) :
    Calls Try.prog 33 #[.pointer (some ⟨b, 0, none⟩), .agg #[.bool false, .int .i64 m.st, .int .i64 m.most, .slice A1 m.back.length c1, .slice A2 m.again.length c2, .bool op, .string word, .int .i64 frm, .bool done], .agg #[.int .i64 1, .int .i64 s, .string wd], .func (.func 14) #[] #[]] w
      fun e w' => ∃ vm' m', e = .returned (.tuple #[vm', .bool true]) ∧ Ppair.Past w' base b (mapP pf m') ∧ RAt w' m' vm' ∧ Ppair.Spares w w' ∧ Below base w w' := by
  have hbase : base ≤ w.heap.size := by have := hP.size; omega
  obtain ⟨W3, hW3⟩ : ∃ W3, W3 = ((w.alloc (.cells #[.bool false, .int .i64 m.st, .int .i64 m.most, .slice A1 m.back.length c1, .slice A2 m.again.length c2, .bool op, .string word, .int .i64 frm, .bool done] 64)).alloc (.cells #[.int .i64 1, .int .i64 s, .string wd] 68)).alloc (.cells #[.bool false, .int .i64 0, .int .i64 0, .slice none 0 0, .slice none 0 0, .bool false, .string ⟨#[]⟩, .int .i64 0, .bool false] 64) := ⟨_, rfl⟩
  have B3 : Below w.heap.size w W3 := by rw [hW3]; exact below_three w _ _ _
  have hz3 : W3.heap.size = w.heap.size + 3 := by rw [hW3]; simp
  have x3 : Hid _ := Lib.hid (hW3 ▸ (three_new w _ _ _))
  have HP := Lib.hid (hP.below B3)
  have HR := Lib.hid (hR.stays (Stays.of_below B3))
  have HB3 := Lib.hid (B3.mono hbase)
  have G3 := Lib.hid ((Ppair.Spares.refl w).below B3)
  have HW3 := Lib.hid hW3
  clear hP hR hW3 B3
  go_enter Try.func33, Try.ntmps33
  go_wp2_with fail
  rw [← HW3.out]
  refine (ref_do W3 m _ s wd HR.out).mono ?_
  rintro e w4 ⟨vm', rfl, R4, L4⟩
  obtain ⟨m', hm'⟩ : ∃ m', m' = doP m s wd := ⟨_, rfl⟩
  rw [← hm'] at R4
  obtain ⟨vb, va, word', frm', done', rfl, h4⟩ := R4
  obtain ⟨A3, c3, rfl⟩ := h4.rb.form
  obtain ⟨A4, c4, rfl⟩ := h4.ra.form
  unfold rv
  obtain ⟨W5, hW5⟩ : ∃ W5, W5 = w4.alloc (.cells #[.bool false, .int .i64 m'.st, .int .i64 m'.most, .slice A3 m'.back.length c3, .slice A4 m'.again.length c4, .bool m'.opn.isSome, .string word', .int .i64 frm', .bool done'] 64) := ⟨_, rfl⟩
  have B5 : Below w4.heap.size w4 W5 := by rw [hW5]; exact (Below.refl _ w4).alloc (Nat.le_refl _) _
  have hz4 := L4.size
  have t5 : W5.heap[w4.heap.size]? = some (.cells #[.bool false, .int .i64 m'.st, .int .i64 m'.most, .slice A3 m'.back.length c3, .slice A4 m'.again.length c4, .bool m'.opn.isSome, .string word', .int .i64 frm', .bool done'] 64 (0, 0)) := by rw [hW5]; exact World.alloc_heap_new w4 _
  have u5 := (B5.block (w.heap.size + 1) (by omega)).trans ((L4.block _ (by omega)).trans x3.out.2.1)
  have r5 := (B5.block (w.heap.size + 2) (by omega)).trans ((L4.block _ (by omega)).trans x3.out.1)
  have P5 : Hid (Ppair.Past W5.drew base b (mapP pf m)) := Lib.hid (((HP.out.below L4).below B5).below ((Below.refl _ W5).drew))
  have R5 : Hid (RP W5 m' (.slice A3 m'.back.length c3) (.slice A4 m'.again.length c4) word' frm' done') := Lib.hid (h4.stays (Stays.of_below B5))
  have HB5 := Lib.hid ((HB3.out.trans (L4.mono (by omega))).trans (B5.mono (by omega)))
  have G5 := Lib.hid ((G3.out.below (L4.mono (by omega))).below (B5.mono (by omega)))
  have hz5 := B5.size
  have ht5 := (Array.getElem?_eq_some_iff.1 t5).1
  have HW5 := Lib.hid hW5
  have HM := Lib.hid hm'
  obtain ⟨⟨p0, p1, p2, p3, p4, p5, p6, p7, p8⟩, pf⟩ := nine t5
  obtain ⟨⟨q0, q1, q2, q3, q4, q5, q6, q7, q8⟩, qf⟩ := nine r5
  have o1 := Pint.of_cells u5 1 _ rfl
  have o2 := Pint.of_cells u5 2 _ rfl
  have T5 := Lib.hid t5
  have U5 := Lib.hid u5
  have Q5 := Lib.hid r5
  clear hW5 B5 t5 u5 r5 h4 L4 hm'
  go_wp2_with fail
  rw [← HW5.out]
  go_region_with (first
    | (go_at_call 14; (with_reducible refine (of_pair s _).mono ?_); rintro e w6 ⟨rfl, L6⟩; have hl6 := L6.size; have t6 := (L6.block _ (show w4.heap.size < W5.drew.heap.size from ht5)).trans T5.out; have u6 := (L6.block (w.heap.size + 1) (show _ < W5.drew.heap.size by show _ < W5.heap.size; omega)).trans U5.out; have r6 := (L6.block (w.heap.size + 2) (show _ < W5.drew.heap.size by show _ < W5.heap.size; omega)).trans Q5.out; clear p0 p1 p2 p3 p4 p5 p6 p7 p8 pf q0 q1 q2 q3 q4 q5 q6 q7 q8 qf o1 o2; obtain ⟨⟨p0, p1, p2, p3, p4, p5, p6, p7, p8⟩, pf⟩ := nine t6; obtain ⟨⟨q0, q1, q2, q3, q4, q5, q6, q7, q8⟩, qf⟩ := nine r6; have Q6 := Lib.hid r6; have o2 := Pint.of_cells u6 2 _ rfl; have P6 := Lib.hid (P5.out.below L6); have T6 := Lib.hid t6; have HL6 := Lib.hid L6; clear L6 t6 r6 u6)
    | (go_at_call 49; (with_reducible refine (pair_do _ base b m s wd P6.out).mono ?_); rintro e w7 ⟨rfl, P7, S7, L7⟩; have t7 := S7 _ _ _ _ T6.out (by decide) (by decide) (by decide); have r7 := S7 _ _ _ _ Q6.out (by decide) (by decide) (by decide); clear p0 p1 p2 p3 p4 p5 p6 p7 p8 pf q0 q1 q2 q3 q4 q5 q6 q7 q8 qf; obtain ⟨⟨p0, p1, p2, p3, p4, p5, p6, p7, p8⟩, pf⟩ := nine t7; obtain ⟨⟨q0, q1, q2, q3, q4, q5, q6, q7, q8⟩, qf⟩ := nine r7; have Q7 := Lib.hid r7; have HP7 := Lib.hid P7; have HS7 := Lib.hid S7; have HL7 := Lib.hid L7; clear P7 S7 L7 t7 r7))
  all_goals
    go_wp2_with fail
    obtain ⟨W7, hW7, f1, f2, f3, f4, _⟩ := end_nine w7 (w.heap.size + 1 + 1) w.heap.size (by omega) _ _ _ _ _ _ _ _ _ Q7.out (.bool false) (.int .i64 m'.st) (.int .i64 m'.most) (.slice A3 m'.back.length c3) (.slice A4 m'.again.length c4) (.bool m'.opn.isSome) (.string word') (.int .i64 frm') (.bool done')
    rw [← hW7]
    clear hW7
    refine bodyPost_ret (ret_rt (fn := Try.f33) rfl _ _ (w.heap.size + 1 + 1) _ _ _ _ _ _ _ _ _ (by rfl) f1) (by rfl) ?_
    refine ⟨_, m', by simp [Act.put, rv], ?_, ⟨_, _, word', frm', done', rfl, (R5.out.stays ((Stays.trans (fun _ _ e => e) (Stays.of_below HL6.out)).trans HS7.out.stays)).stays f3⟩, (Ppair.Spares.trans ((show Ppair.Spares w W5.drew from G5.out).below (HL6.out.mono (show w.heap.size ≤ W5.heap.size by omega))) HS7.out).below f2, ((HB5.out.drew.trans (HL6.out.mono (show base ≤ W5.heap.size by omega))).trans HL7.out).trans (f2.mono hbase)⟩
    rw [HM.out]
    exact HP7.out.others (fun g cs t h h1 _ _ => f4 g cs t h h1)
end Go.Proofs.Ytihfkoomimohbaa
