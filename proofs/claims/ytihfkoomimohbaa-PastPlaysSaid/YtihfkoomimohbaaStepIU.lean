/- The statements' step: Undo (int). -/
import Derived.Test.YtihfkoomimohbaaStepW
import Derived.Deep.RegionHeld3
import Derived.Deep.DrawnRows
namespace Go.Proofs.Ytihfkoomimohbaa
open Go.RowKit Past17


set_option maxRecDepth 100000 in
set_option maxHeartbeats 4000000 in
theorem step_undo_some_int (w : World) (base b : Nat) (m : Pst Int) (A1 : Option Addr) (c1 : Nat) (A2 : Option Addr) (c2 : Nat) (op : Bool) (word : ByteArray) (frm : Int) (done : Bool) (s : Int) (wd : ByteArray) (x : Int × ByteArray) (hx : undoA m = (some x, 0))
    (hP : Pint.Past w base b m) (hR : RAt w m (.agg #[.bool false, .int .i64 m.st, .int .i64 m.most, .slice A1 m.back.length c1, .slice A2 m.again.length c2, .bool op, .string word, .int .i64 frm, .bool done])) :
    Calls Try.prog 30 #[.pointer (some ⟨b, 0, none⟩), .agg #[.bool false, .int .i64 m.st, .int .i64 m.most, .slice A1 m.back.length c1, .slice A2 m.again.length c2, .bool op, .string word, .int .i64 frm, .bool done], .agg #[.int .i64 2, .int .i64 s, .string wd], .func (.func 12) #[] #[]] w
      fun e w' => ∃ vm' m', e = .returned (.tuple #[vm', .bool true]) ∧ Pint.Past w' base b m' ∧ RAt w' m' vm' ∧ Pint.Spares w w' ∧ Below base w w' := by
  have hbase : base ≤ w.heap.size := by have := hP.size; omega
  obtain ⟨W3, hW3⟩ : ∃ W3, W3 = ((w.alloc (.cells #[.bool false, .int .i64 m.st, .int .i64 m.most, .slice A1 m.back.length c1, .slice A2 m.again.length c2, .bool op, .string word, .int .i64 frm, .bool done] 64)).alloc (.cells #[.int .i64 2, .int .i64 s, .string wd] 68)).alloc (.cells #[.bool false, .int .i64 0, .int .i64 0, .slice none 0 0, .slice none 0 0, .bool false, .string ⟨#[]⟩, .int .i64 0, .bool false] 64) := ⟨_, rfl⟩
  have B3 : Below w.heap.size w W3 := by rw [hW3]; exact below_three w _ _ _
  have hz3 : W3.heap.size = w.heap.size + 3 := by rw [hW3]; simp
  have x3 : Hid _ := Lib.hid (hW3 ▸ (three_new w _ _ _))
  have HP := Lib.hid (hP.below B3)
  have HR := Lib.hid (hR.stays (Stays.of_below B3))
  have HB3 := Lib.hid (B3.mono hbase)
  have G3 := Lib.hid ((Pint.Spares.refl w).below B3)
  have HW3 := Lib.hid hW3
  clear hP hR hW3 B3
  obtain ⟨W5, hW5⟩ : ∃ W5, W5 = (W3.alloc (.cells #[.bool false, .int .i64 0, .int .i64 0, .slice none 0 0, .slice none 0 0, .bool false, .string ⟨#[]⟩, .int .i64 0, .bool false] 64)).alloc (.cells #[.int .i64 0, .string ⟨#[]⟩] 98) := ⟨_, rfl⟩
  have B5 : Below W3.heap.size W3 W5 := by rw [hW5]; exact below_two W3 _ _
  have hz5 : W5.heap.size = w.heap.size + 5 := by rw [hW5]; simp [hz3]
  have x5 : Hid _ := Lib.hid (hW5 ▸ (two_new W3 _ _))
  have y2 := (B5.block (w.heap.size + 2) (by omega)).trans x3.out.1
  have Y2 := Lib.hid y2
  have HP5 := Lib.hid (HP.out.below B5)
  have HR5 := Lib.hid (HR.out.stays (Stays.of_below B5))
  have HB5 := Lib.hid (HB3.out.trans (B5.mono (by omega)))
  have G5 := Lib.hid (G3.out.below (B5.mono (by omega)))
  have HW5 := Lib.hid hW5
  have HX := Lib.hid hx
  clear hW5 B5 y2 hx
  go_enter Try.func30, Try.ntmps30
  go_wp2_with fail
  rw [← HW3.out, ← HW5.out]
  refine (ref_undo_x W5 m _ HR5.out (some x) 0 HX.out).mono ?_
  rintro e w6 ⟨vm', s', wd', rfl, hs', R6, hnv, L6⟩
  obtain ⟨rfl, rfl⟩ := hs' x rfl
  obtain ⟨m', hm'⟩ : ∃ m', m' = undoP m := ⟨_, rfl⟩
  rw [← hm'] at R6
  obtain ⟨vb, va, word', frm', done', rfl, h6⟩ := R6
  obtain ⟨A3, c3, rfl⟩ := h6.rb.form
  obtain ⟨A4, c4, rfl⟩ := h6.ra.form
  have hne : (Value.slice A3 m'.back.length c3).ownBlock ≠ some (w.heap.size + 1 + 1 + 1 + 1) ∧ (Value.slice A4 m'.again.length c4).ownBlock ≠ some (w.heap.size + 1 + 1 + 1 + 1) := by
    rcases hnv with hnv | hnv
    · obtain ⟨vb, va, word2, frm2, done2, e2, h2⟩ := HR.out
      have e3 := hnv.trans e2
      have e4 := congrArg vB e3
      have e5 := congrArg vA e3
      change Value.slice A3 m'.back.length c3 = vb at e4
      change Value.slice A4 m'.again.length c4 = va at e5
      rw [e4, e5]
      exact ⟨fun e => by have := h2.rb.lt _ e; omega, fun e => by have := h2.ra.lt _ e; omega⟩
    · exact ⟨fun e => by have := hnv.1 _ e; omega, fun e => by have := hnv.2 _ e; omega⟩
  clear hnv
  unfold rv
  have hz6 := L6.size
  have r6 := (L6.block (w.heap.size + 2) (by omega)).trans Y2.out
  have t6 := (L6.block (w.heap.size + 3) (by omega)).trans (hz3 ▸ x5.out.2)
  have u6 := (L6.block (w.heap.size + 4) (by omega)).trans (hz3 ▸ x5.out.1)
  have HP6 := Lib.hid (HP5.out.below L6)
  have HR6 := Lib.hid h6
  have HB6 := Lib.hid (HB5.out.trans (L6.mono (by omega)))
  have G6 := Lib.hid (G5.out.below (L6.mono (by omega)))
  have HM := Lib.hid hm'
  obtain ⟨⟨p0, p1, p2, p3, p4, p5, p6, p7, p8⟩, pf⟩ := nine t6
  have u60 := Pint.of_cells u6 0 _ rfl
  have u61 := Pint.of_cells u6 1 _ rfl
  have uf0 := Pint.no_ice u6 0
  have uf1 := Pint.no_ice u6 1
  have T6 := Lib.hid t6
  have U6 := Lib.hid u6
  have Q6 := Lib.hid r6
  have HN := Lib.hid hne
  rw [show w.heap.size + 3 = w.heap.size + 1 + 1 + 1 from rfl] at p0 p1 p2 p3 p4 p5 p6 p7 p8 pf
  rw [show w.heap.size + 4 = w.heap.size + 1 + 1 + 1 + 1 from rfl] at u60 u61 uf0 uf1
  clear hm' t6 u6 r6 h6 L6 hne
  go_wp2_with fail
  obtain ⟨Wa, hWa, a1, a2, a3, a4, a5⟩ := end_nine w6 (w.heap.size + 1 + 1 + 1) w.heap.size (by omega) _ _ _ _ _ _ _ _ _ T6.out (.bool false) (.int .i64 m'.st) (.int .i64 m'.most) (.slice A3 m'.back.length c3) (.slice A4 m'.again.length c4) (.bool m'.opn.isSome) (.string word') (.int .i64 frm') (.bool done')
  rw [← hWa]
  obtain ⟨W7, hW7⟩ : ∃ W7, W7 = (Wa.setCell ⟨w.heap.size + 1 + 1 + 1 + 1, 0, none⟩ (.int .i64 x.1)).setCell ⟨w.heap.size + 1 + 1 + 1 + 1, 1, none⟩ (.string x.2) := ⟨_, rfl⟩
  rw [← hW7]
  have ua := a4 _ _ _ U6.out (by decide)
  have u7 := Pint.set_row (i := 1) (v := .string x.2) (Pint.set_row (i := 0) (v := .int .i64 x.1) ua)
  have t7 := far_two (g := w.heap.size + 1 + 1 + 1 + 1) (i := 0) (j := 1) (x := .int .i64 x.1) (y := .string x.2) a1 (by omega)
  have r7 := far_two (g := w.heap.size + 1 + 1 + 1 + 1) (i := 0) (j := 1) (x := .int .i64 x.1) (y := .string x.2) ((a5 (w.heap.size + 2) (by omega)).trans Q6.out) (by omega)
  have P7 := (HP6.out.others (fun g cs t h h1 _ _ => a4 g cs t h h1)).others (fun g cs t h _ h2 _ => far_98 (x := .int .i64 x.1) (y := .string x.2) ua g cs t h h2)
  have R7a := HR6.out.stays a3
  have R7b := (R7a.rb.setFar (i := 0) HN.out.1 (.int .i64 x.1)).setFar (i := 1) HN.out.1 (.string x.2)
  have R7c := (R7a.ra.setFar (i := 0) HN.out.2 (.int .i64 x.1)).setFar (i := 1) HN.out.2 (.string x.2)
  have B7 := ((HB6.out.trans (a2.mono hbase)).setCell (p := ⟨w.heap.size + 1 + 1 + 1 + 1, 0, none⟩) (by show base ≤ _ + 1 + 1 + 1 + 1; omega) (.int .i64 x.1)).setCell (p := ⟨w.heap.size + 1 + 1 + 1 + 1, 1, none⟩) (by show base ≤ _ + 1 + 1 + 1 + 1; omega) (.string x.2)
  have G7 := G6.out.below ((a2.setCell (p := ⟨w.heap.size + 1 + 1 + 1 + 1, 0, none⟩) (by show w.heap.size ≤ _ + 1 + 1 + 1 + 1; omega) (.int .i64 x.1)).setCell (p := ⟨w.heap.size + 1 + 1 + 1 + 1, 1, none⟩) (by show w.heap.size ≤ _ + 1 + 1 + 1 + 1; omega) (.string x.2))
  rw [← hW7] at u7 t7 r7 P7 R7b R7c B7 G7
  replace G7 := Lib.hid G7
  have R7 : Hid (RP W7 m' (.slice A3 m'.back.length c3) (.slice A4 m'.again.length c4) word' frm' done') := Lib.hid ⟨R7b, R7c, R7a.op, R7a.ok⟩
  have T7 := Lib.hid t7
  have U7 := Lib.hid u7
  have Q7 := Lib.hid r7
  have HB7 := Lib.hid B7
  have HP7 := Lib.hid P7
  clear hWa a1 a2 a3 a4 a5 ua u7 t7 r7 P7 R7a R7b R7c B7 p0 p1 p2 p3 p4 p5 p6 p7 p8 pf u60 u61 uf0 uf1 hW7
  refine (int_undo_some W7 base b m x HP7.out HX.out).mono ?_
  rintro e w8 ⟨rfl, P8, S8, L8⟩
  have t8 := S8 _ _ _ _ T7.out (by decide) (by decide) (by decide)
  have u8 := S8 _ _ _ _ U7.out (by decide) (by decide) (by decide)
  have r8 := S8 _ _ _ _ Q7.out (by decide) (by decide) (by decide)
  obtain ⟨⟨p0, p1, p2, p3, p4, p5, p6, p7, p8⟩, pf⟩ := nine t8
  obtain ⟨⟨q0, q1, q2, q3, q4, q5, q6, q7, q8⟩, qf⟩ := nine r8
  have u80 := Pint.of_cells u8 0 _ rfl
  have u81 := Pint.of_cells u8 1 _ rfl
  rw [show w.heap.size + 2 = w.heap.size + 1 + 1 from rfl] at q0 q1 q2 q3 q4 q5 q6 q7 q8 qf
  have Q8 := Lib.hid r8
  have HP8 := Lib.hid P8
  have HS8 := Lib.hid S8
  have HB8 := Lib.hid (HB7.out.trans L8)
  have G8 := Lib.hid (G7.out.trans S8)
  rw [← HM.out] at P8
  replace P8 := Lib.hid P8
  have R8 := Lib.hid (R7.out.stays S8.stays)
  clear t8 u8 r8 S8 L8 HP8
  go_wp2_with fail
  go_region_held3 (fun w' => w'.cell? ⟨w.heap.size + 1 + 1 + 1, 0, none⟩ = some (.bool false) ∧ w'.cell? ⟨w.heap.size + 1 + 1 + 1, 1, none⟩ = some (.int .i64 m'.st) ∧ w'.cell? ⟨w.heap.size + 1 + 1 + 1, 2, none⟩ = some (.int .i64 m'.most) ∧ w'.cell? ⟨w.heap.size + 1 + 1 + 1, 3, none⟩ = some (.slice A3 m'.back.length c3) ∧ w'.cell? ⟨w.heap.size + 1 + 1 + 1, 4, none⟩ = some (.slice A4 m'.again.length c4) ∧ w'.cell? ⟨w.heap.size + 1 + 1 + 1, 5, none⟩ = some (.bool m'.opn.isSome) ∧ w'.cell? ⟨w.heap.size + 1 + 1 + 1, 6, none⟩ = some (.string word') ∧ w'.cell? ⟨w.heap.size + 1 + 1 + 1, 7, none⟩ = some (.int .i64 frm') ∧ w'.cell? ⟨w.heap.size + 1 + 1 + 1, 8, none⟩ = some (.bool done') ∧ w'.cell? ⟨w.heap.size + 1 + 1 + 1 + 1, 0, none⟩ = some (.int .i64 x.1) ∧ w'.cell? ⟨w.heap.size + 1 + 1 + 1 + 1, 1, none⟩ = some (.string x.2)) (go_keep)
    (first | (go_at_call 12; (with_reducible refine (of_int x.1 _).mono ?_); rintro e w9 ⟨rfl, rfl⟩))
  all_goals
    go_wp2_with fail
    obtain ⟨W9, hW9, f1, f2, f3, f4, _⟩ := end_nine w8 (w.heap.size + 1 + 1) w.heap.size (by omega) _ _ _ _ _ _ _ _ _ Q8.out (.bool false) (.int .i64 m'.st) (.int .i64 m'.most) (.slice A3 m'.back.length c3) (.slice A4 m'.again.length c4) (.bool m'.opn.isSome) (.string word') (.int .i64 frm') (.bool done')
    rw [← hW9]
    clear hW9
    refine bodyPost_ret (ret_rt (fn := Try.f30) rfl _ _ (w.heap.size + 1 + 1) _ _ _ _ _ _ _ _ _ (by rfl) f1) (by rfl) ?_
    exact ⟨_, m', by simp [rv], (P8.out.others (fun g cs t h h1 _ _ => f4 g cs t h h1)).below ((Below.refl _ _).drew), ⟨_, _, word', frm', done', rfl, (R8.out.stays f3).stays (fun _ _ e => e)⟩, (G8.out.below f2).below ((Below.refl _ _).drew), (HB8.out.trans (f2.mono hbase)).drew⟩

set_option maxRecDepth 100000 in
set_option maxHeartbeats 4000000 in
theorem step_undo_none_int (w : World) (base b : Nat) (m : Pst Int) (A1 : Option Addr) (c1 : Nat) (A2 : Option Addr) (c2 : Nat) (op : Bool) (word : ByteArray) (frm : Int) (done : Bool) (s : Int) (wd : ByteArray) (n : Int) (hn : n ≠ 0) (hx : undoA m = (none, n))
    (hP : Pint.Past w base b m) (hR : RAt w m (.agg #[.bool false, .int .i64 m.st, .int .i64 m.most, .slice A1 m.back.length c1, .slice A2 m.again.length c2, .bool op, .string word, .int .i64 frm, .bool done])) :
    Calls Try.prog 30 #[.pointer (some ⟨b, 0, none⟩), .agg #[.bool false, .int .i64 m.st, .int .i64 m.most, .slice A1 m.back.length c1, .slice A2 m.again.length c2, .bool op, .string word, .int .i64 frm, .bool done], .agg #[.int .i64 2, .int .i64 s, .string wd], .func (.func 12) #[] #[]] w
      fun e w' => ∃ vm' m', e = .returned (.tuple #[vm', .bool true]) ∧ Pint.Past w' base b m' ∧ RAt w' m' vm' ∧ Pint.Spares w w' ∧ Below base w w' := by
  have n0 : (n == 0) = false := beq_eq_false_iff_ne.2 hn
  have n1 : (n != 0) = true := by rw [bne_iff_ne]; exact hn
  have hbase : base ≤ w.heap.size := by have := hP.size; omega
  obtain ⟨W3, hW3⟩ : ∃ W3, W3 = ((w.alloc (.cells #[.bool false, .int .i64 m.st, .int .i64 m.most, .slice A1 m.back.length c1, .slice A2 m.again.length c2, .bool op, .string word, .int .i64 frm, .bool done] 64)).alloc (.cells #[.int .i64 2, .int .i64 s, .string wd] 68)).alloc (.cells #[.bool false, .int .i64 0, .int .i64 0, .slice none 0 0, .slice none 0 0, .bool false, .string ⟨#[]⟩, .int .i64 0, .bool false] 64) := ⟨_, rfl⟩
  have B3 : Below w.heap.size w W3 := by rw [hW3]; exact below_three w _ _ _
  have hz3 : W3.heap.size = w.heap.size + 3 := by rw [hW3]; simp
  have x3 : Hid _ := Lib.hid (hW3 ▸ (three_new w _ _ _))
  have HP := Lib.hid (hP.below B3)
  have HR := Lib.hid (hR.stays (Stays.of_below B3))
  have HB3 := Lib.hid (B3.mono hbase)
  have G3 := Lib.hid ((Pint.Spares.refl w).below B3)
  have HW3 := Lib.hid hW3
  clear hP hR hW3 B3
  obtain ⟨W5, hW5⟩ : ∃ W5, W5 = (W3.alloc (.cells #[.bool false, .int .i64 0, .int .i64 0, .slice none 0 0, .slice none 0 0, .bool false, .string ⟨#[]⟩, .int .i64 0, .bool false] 64)).alloc (.cells #[.int .i64 0, .string ⟨#[]⟩] 98) := ⟨_, rfl⟩
  have B5 : Below W3.heap.size W3 W5 := by rw [hW5]; exact below_two W3 _ _
  have hz5 : W5.heap.size = w.heap.size + 5 := by rw [hW5]; simp [hz3]
  have x5 : Hid _ := Lib.hid (hW5 ▸ (two_new W3 _ _))
  have y2 := (B5.block (w.heap.size + 2) (by omega)).trans x3.out.1
  have Y2 := Lib.hid y2
  have HP5 := Lib.hid (HP.out.below B5)
  have HR5 := Lib.hid (HR.out.stays (Stays.of_below B5))
  have HB5 := Lib.hid (HB3.out.trans (B5.mono (by omega)))
  have G5 := Lib.hid (G3.out.below (B5.mono (by omega)))
  have HW5 := Lib.hid hW5
  have HX := Lib.hid hx
  clear hW5 B5 y2 hx
  go_enter Try.func30, Try.ntmps30
  go_wp2_with fail
  rw [← HW3.out, ← HW5.out]
  refine (ref_undo_x W5 m _ HR5.out none n HX.out).mono ?_
  rintro e w6 ⟨vm', s', wd', rfl, hs', R6, hnv, L6⟩
  clear hs'
  obtain ⟨m', hm'⟩ : ∃ m', m' = undoP m := ⟨_, rfl⟩
  rw [← hm'] at R6
  obtain ⟨vb, va, word', frm', done', rfl, h6⟩ := R6
  obtain ⟨A3, c3, rfl⟩ := h6.rb.form
  obtain ⟨A4, c4, rfl⟩ := h6.ra.form
  have hne : (Value.slice A3 m'.back.length c3).ownBlock ≠ some (w.heap.size + 1 + 1 + 1 + 1) ∧ (Value.slice A4 m'.again.length c4).ownBlock ≠ some (w.heap.size + 1 + 1 + 1 + 1) := by
    rcases hnv with hnv | hnv
    · obtain ⟨vb, va, word2, frm2, done2, e2, h2⟩ := HR.out
      have e3 := hnv.trans e2
      have e4 := congrArg vB e3
      have e5 := congrArg vA e3
      change Value.slice A3 m'.back.length c3 = vb at e4
      change Value.slice A4 m'.again.length c4 = va at e5
      rw [e4, e5]
      exact ⟨fun e => by have := h2.rb.lt _ e; omega, fun e => by have := h2.ra.lt _ e; omega⟩
    · exact ⟨fun e => by have := hnv.1 _ e; omega, fun e => by have := hnv.2 _ e; omega⟩
  clear hnv
  unfold rv
  have hz6 := L6.size
  have r6 := (L6.block (w.heap.size + 2) (by omega)).trans Y2.out
  have t6 := (L6.block (w.heap.size + 3) (by omega)).trans (hz3 ▸ x5.out.2)
  have u6 := (L6.block (w.heap.size + 4) (by omega)).trans (hz3 ▸ x5.out.1)
  have HP6 := Lib.hid (HP5.out.below L6)
  have HR6 := Lib.hid h6
  have HB6 := Lib.hid (HB5.out.trans (L6.mono (by omega)))
  have G6 := Lib.hid (G5.out.below (L6.mono (by omega)))
  have HM := Lib.hid hm'
  obtain ⟨⟨p0, p1, p2, p3, p4, p5, p6, p7, p8⟩, pf⟩ := nine t6
  have u60 := Pint.of_cells u6 0 _ rfl
  have u61 := Pint.of_cells u6 1 _ rfl
  have uf0 := Pint.no_ice u6 0
  have uf1 := Pint.no_ice u6 1
  have T6 := Lib.hid t6
  have U6 := Lib.hid u6
  have Q6 := Lib.hid r6
  have HN := Lib.hid hne
  rw [show w.heap.size + 3 = w.heap.size + 1 + 1 + 1 from rfl] at p0 p1 p2 p3 p4 p5 p6 p7 p8 pf
  rw [show w.heap.size + 4 = w.heap.size + 1 + 1 + 1 + 1 from rfl] at u60 u61 uf0 uf1
  clear hm' t6 u6 r6 h6 L6 hne
  go_wp2_with fail
  obtain ⟨Wa, hWa, a1, a2, a3, a4, a5⟩ := end_nine w6 (w.heap.size + 1 + 1 + 1) w.heap.size (by omega) _ _ _ _ _ _ _ _ _ T6.out (.bool false) (.int .i64 m'.st) (.int .i64 m'.most) (.slice A3 m'.back.length c3) (.slice A4 m'.again.length c4) (.bool m'.opn.isSome) (.string word') (.int .i64 frm') (.bool done')
  rw [← hWa]
  obtain ⟨W7, hW7⟩ : ∃ W7, W7 = (Wa.setCell ⟨w.heap.size + 1 + 1 + 1 + 1, 0, none⟩ (.int .i64 s')).setCell ⟨w.heap.size + 1 + 1 + 1 + 1, 1, none⟩ (.string wd') := ⟨_, rfl⟩
  rw [← hW7]
  have ua := a4 _ _ _ U6.out (by decide)
  have u7 := Pint.set_row (i := 1) (v := .string wd') (Pint.set_row (i := 0) (v := .int .i64 s') ua)
  have t7 := far_two (g := w.heap.size + 1 + 1 + 1 + 1) (i := 0) (j := 1) (x := .int .i64 s') (y := .string wd') a1 (by omega)
  have r7 := far_two (g := w.heap.size + 1 + 1 + 1 + 1) (i := 0) (j := 1) (x := .int .i64 s') (y := .string wd') ((a5 (w.heap.size + 2) (by omega)).trans Q6.out) (by omega)
  have P7 := (HP6.out.others (fun g cs t h h1 _ _ => a4 g cs t h h1)).others (fun g cs t h _ h2 _ => far_98 (x := .int .i64 s') (y := .string wd') ua g cs t h h2)
  have R7a := HR6.out.stays a3
  have R7b := (R7a.rb.setFar (i := 0) HN.out.1 (.int .i64 s')).setFar (i := 1) HN.out.1 (.string wd')
  have R7c := (R7a.ra.setFar (i := 0) HN.out.2 (.int .i64 s')).setFar (i := 1) HN.out.2 (.string wd')
  have B7 := ((HB6.out.trans (a2.mono hbase)).setCell (p := ⟨w.heap.size + 1 + 1 + 1 + 1, 0, none⟩) (by show base ≤ _ + 1 + 1 + 1 + 1; omega) (.int .i64 s')).setCell (p := ⟨w.heap.size + 1 + 1 + 1 + 1, 1, none⟩) (by show base ≤ _ + 1 + 1 + 1 + 1; omega) (.string wd')
  have G7 := G6.out.below ((a2.setCell (p := ⟨w.heap.size + 1 + 1 + 1 + 1, 0, none⟩) (by show w.heap.size ≤ _ + 1 + 1 + 1 + 1; omega) (.int .i64 s')).setCell (p := ⟨w.heap.size + 1 + 1 + 1 + 1, 1, none⟩) (by show w.heap.size ≤ _ + 1 + 1 + 1 + 1; omega) (.string wd'))
  rw [← hW7] at u7 t7 r7 P7 R7b R7c B7 G7
  replace G7 := Lib.hid G7
  have R7 : Hid (RP W7 m' (.slice A3 m'.back.length c3) (.slice A4 m'.again.length c4) word' frm' done') := Lib.hid ⟨R7b, R7c, R7a.op, R7a.ok⟩
  have T7 := Lib.hid t7
  have U7 := Lib.hid u7
  have Q7 := Lib.hid r7
  have HB7 := Lib.hid B7
  have HP7 := Lib.hid P7
  clear hWa a1 a2 a3 a4 a5 ua u7 t7 r7 P7 R7a R7b R7c B7 p0 p1 p2 p3 p4 p5 p6 p7 p8 pf u60 u61 uf0 uf1 hW7
  refine (int_undo_none W7 base b m n HP7.out HX.out).mono ?_
  rintro e w8 ⟨rfl, P8, S8, L8⟩
  have t8 := S8 _ _ _ _ T7.out (by decide) (by decide) (by decide)
  have u8 := S8 _ _ _ _ U7.out (by decide) (by decide) (by decide)
  have r8 := S8 _ _ _ _ Q7.out (by decide) (by decide) (by decide)
  obtain ⟨⟨p0, p1, p2, p3, p4, p5, p6, p7, p8⟩, pf⟩ := nine t8
  obtain ⟨⟨q0, q1, q2, q3, q4, q5, q6, q7, q8⟩, qf⟩ := nine r8
  have u80 := Pint.of_cells u8 0 _ rfl
  have u81 := Pint.of_cells u8 1 _ rfl
  rw [show w.heap.size + 2 = w.heap.size + 1 + 1 from rfl] at q0 q1 q2 q3 q4 q5 q6 q7 q8 qf
  have Q8 := Lib.hid r8
  have HP8 := Lib.hid P8
  have HS8 := Lib.hid S8
  have HB8 := Lib.hid (HB7.out.trans L8)
  have G8 := Lib.hid (G7.out.trans S8)
  rw [← HM.out] at P8
  replace P8 := Lib.hid P8
  have R8 := Lib.hid (R7.out.stays S8.stays)
  clear t8 u8 r8 S8 L8 HP8
  go_wp2_with fail
  obtain ⟨W9, hW9, f1, f2, f3, f4, _⟩ := end_nine w8 (w.heap.size + 1 + 1) w.heap.size (by omega) _ _ _ _ _ _ _ _ _ Q8.out (.bool false) (.int .i64 m'.st) (.int .i64 m'.most) (.slice A3 m'.back.length c3) (.slice A4 m'.again.length c4) (.bool m'.opn.isSome) (.string word') (.int .i64 frm') (.bool done')
  rw [← hW9]
  clear hW9
  refine bodyPost_ret (ret_rt (fn := Try.f30) rfl _ _ (w.heap.size + 1 + 1) _ _ _ _ _ _ _ _ _ (by rfl) f1) (by rfl) ?_
  exact ⟨_, m', by simp [rv], (P8.out.others (fun g cs t h h1 _ _ => f4 g cs t h h1)), ⟨_, _, word', frm', done', rfl, (R8.out.stays f3)⟩, (G8.out.below f2), (HB8.out.trans (f2.mono hbase))⟩
end Go.Proofs.Ytihfkoomimohbaa
