/- The document's past: New, Begin, End, Forget, Words; a nil one; each by its value. -/
import Derived.Test.YtihfkoomimohbaaRefUR
namespace Go.Proofs.Ytihfkoomimohbaa
open Go.RowKit Past17


set_option maxRecDepth 100000 in
set_option maxHeartbeats 2000000 in
theorem ref_new_bad (s most : Int) (w : World) (h : most < 0 ∨ 4096 < most) :
    Calls Try.prog 29 #[.int .i64 s, .int .i64 most] w fun e w' => e = .returned (.tuple #[bad, .int .i64 2]) ∧ Below w.heap.size w w' := by
  go_enter Try.func29, Try.ntmps29
  by_cases h1 : most < 0
  · clear h
    go_wp2_with fail
    refine bodyPost_ret (ret_rt rfl _ _ w.heap.size _ _ _ _ _ _ _ _ _ rfl (World.alloc_heap_new w _)) rfl ?_
    exact ⟨rfl, (Below.refl _ w).alloc (Nat.le_refl _) _⟩
  · have h2 : 4096 < most := h.resolve_left h1
    clear h
    go_wp2_with fail
    refine bodyPost_ret (ret_rt rfl _ _ w.heap.size _ _ _ _ _ _ _ _ _ rfl (World.alloc_heap_new w _)) rfl ?_
    exact ⟨rfl, (Below.refl _ w).alloc (Nat.le_refl _) _⟩

set_option maxRecDepth 100000 in
set_option maxHeartbeats 2000000 in
theorem ref_new_good (s : Int) (most : Nat) (w : World) (h : most ≤ 4096) :
    Calls Try.prog 29 #[.int .i64 s, .int .i64 most] w fun e w' => ∃ v', e = .returned (.tuple #[v', .int .i64 0]) ∧ RAt w' (newP s most) v' ∧ Below w.heap.size w w' := by
  have h1 : ¬ (most : Int) < 0 := by omega
  have h2 : ¬ 4096 < (most : Int) := by omega
  go_enter Try.func29, Try.ntmps29
  go_wp2_with fail
  refine bodyPost_ret (ret_rt rfl _ _ w.heap.size _ _ _ _ _ _ _ _ _ rfl (World.alloc_heap_new w _)) rfl ?_
  refine ⟨_, rfl, ⟨_, _, ⟨#[]⟩, 0, false, rfl, SRow.nil _, SRow.nil _, (fun a b c e => by cases e), ok_new s h⟩, (Below.refl _ w).alloc (Nat.le_refl _) _⟩

set_option maxRecDepth 100000 in
set_option maxHeartbeats 2000000 in
theorem ref_begin_open (w : World) (m : Pst Int) (A1 : Option Addr) (c1 : Nat) (A2 : Option Addr) (c2 : Nat) (word : ByteArray) (frm : Int) (done : Bool) (wd : ByteArray) (h : RP w m (.slice A1 m.back.length c1) (.slice A2 m.again.length c2) word frm done) (ho : m.opn.isSome = true) :
    Calls Try.prog 46 #[.agg #[.bool false, .int .i64 m.st, .int .i64 m.most, .slice A1 m.back.length c1, .slice A2 m.again.length c2, .bool true, .string word, .int .i64 frm, .bool done], .string wd] w fun e w' => ∃ v', e = .returned (.tuple #[v', .int .i64 171]) ∧ RAt w' (beginP m wd) v' ∧ Below w.heap.size w w' := by
  have H := Lib.hid h
  have HO := Lib.hid ho
  clear h ho
  go_enter Try.func46, Try.ntmps46
  go_wp2_with fail
  refine bodyPost_ret (ret_rt rfl _ _ (w.heap.size + 1) _ _ _ _ _ _ _ _ _ rfl (two_new w _ _).1) rfl ?_
  refine ⟨_, rfl, ?_, below_two w _ _⟩
  have K := fun o x => H.out.stays (Stays.of_below (below_two w o x))
  obtain ⟨x, hx⟩ := Option.isSome_iff_exists.1 HO.out
  have e1 : beginP m wd = m := by simp [beginP, hx]
  exact ⟨_, _, word, frm, done, by rw [e1]; unfold rv; rw [HO.out], by rw [e1]; exact K _ _⟩

set_option maxRecDepth 100000 in
set_option maxHeartbeats 2000000 in
theorem ref_begin_closed (w : World) (m : Pst Int) (A1 : Option Addr) (c1 : Nat) (A2 : Option Addr) (c2 : Nat) (word : ByteArray) (frm : Int) (done : Bool) (wd : ByteArray) (h : RP w m (.slice A1 m.back.length c1) (.slice A2 m.again.length c2) word frm done) (ho : m.opn = none) :
    Calls Try.prog 46 #[.agg #[.bool false, .int .i64 m.st, .int .i64 m.most, .slice A1 m.back.length c1, .slice A2 m.again.length c2, .bool false, .string word, .int .i64 frm, .bool done], .string wd] w fun e w' => ∃ v', e = .returned (.tuple #[v', .int .i64 0]) ∧ RAt w' (beginP m wd) v' ∧ Below w.heap.size w w' := by
  have H := Lib.hid h
  have HO := Lib.hid ho
  clear h ho
  go_enter Try.func46, Try.ntmps46
  go_wp2_with fail
  refine bodyPost_ret (ret_rt rfl _ _ (w.heap.size + 1) _ _ _ _ _ _ _ _ _ rfl (two_new w _ _).1) rfl ?_
  refine ⟨_, rfl, ?_, below_two w _ _⟩
  have K := fun o x => H.out.stays (Stays.of_below (below_two w o x))
  have e1 : beginP m wd = { m with opn := some (m.st, wd, false) } := by simp [beginP, HO.out]
  refine ⟨_, _, wd, m.st, false, by rw [e1]; rfl, ?_⟩
  rw [e1]
  exact ⟨(K _ _).rb, (K _ _).ra, (fun a b c e => by cases e; exact ⟨rfl, rfl, rfl⟩), by rw [← e1]; exact ok_begin H.out.ok wd⟩

set_option maxRecDepth 100000 in
set_option maxHeartbeats 2000000 in
theorem ref_forget_open (w : World) (m : Pst Int) (A1 : Option Addr) (c1 : Nat) (A2 : Option Addr) (c2 : Nat) (word : ByteArray) (frm : Int) (done : Bool) (h : RP w m (.slice A1 m.back.length c1) (.slice A2 m.again.length c2) word frm done) (ho : m.opn.isSome = true) :
    Calls Try.prog 48 #[.agg #[.bool false, .int .i64 m.st, .int .i64 m.most, .slice A1 m.back.length c1, .slice A2 m.again.length c2, .bool true, .string word, .int .i64 frm, .bool done]] w fun e w' => ∃ v', e = .returned (.tuple #[v', .int .i64 171]) ∧ RAt w' (forgetP m) v' ∧ Below w.heap.size w w' := by
  have H := Lib.hid h
  have HO := Lib.hid ho
  clear h ho
  go_enter Try.func48, Try.ntmps48
  go_wp2_with fail
  refine bodyPost_ret (ret_rt rfl _ _ (w.heap.size + 1) _ _ _ _ _ _ _ _ _ rfl (two_new w _ _).1) rfl ?_
  refine ⟨_, rfl, ?_, below_two w _ _⟩
  have K := fun o x => H.out.stays (Stays.of_below (below_two w o x))
  obtain ⟨x, hx⟩ := Option.isSome_iff_exists.1 HO.out
  have e1 : forgetP m = m := by simp [forgetP, hx]
  exact ⟨_, _, word, frm, done, by rw [e1]; unfold rv; rw [HO.out], by rw [e1]; exact K _ _⟩

set_option maxRecDepth 100000 in
set_option maxHeartbeats 2000000 in
theorem ref_forget_closed (w : World) (m : Pst Int) (A1 : Option Addr) (c1 : Nat) (A2 : Option Addr) (c2 : Nat) (word : ByteArray) (frm : Int) (done : Bool) (h : RP w m (.slice A1 m.back.length c1) (.slice A2 m.again.length c2) word frm done) (ho : m.opn = none) :
    Calls Try.prog 48 #[.agg #[.bool false, .int .i64 m.st, .int .i64 m.most, .slice A1 m.back.length c1, .slice A2 m.again.length c2, .bool false, .string word, .int .i64 frm, .bool done]] w fun e w' => ∃ v', e = .returned (.tuple #[v', .int .i64 0]) ∧ RAt w' (forgetP m) v' ∧ Below w.heap.size w w' := by
  have H := Lib.hid h
  have HO := Lib.hid ho
  clear h ho
  go_enter Try.func48, Try.ntmps48
  go_wp2_with fail
  refine bodyPost_ret (ret_rt rfl _ _ (w.heap.size + 1) _ _ _ _ _ _ _ _ _ rfl (two_new w _ _).1) rfl ?_
  refine ⟨_, rfl, ?_, below_two w _ _⟩
  have K := fun o x => H.out.stays (Stays.of_below (below_two w o x))
  have e1 : forgetP m = { m with back := [], again := [] } := by simp [forgetP, HO.out]
  refine ⟨_, _, word, frm, done, by rw [e1]; unfold rv; rw [HO.out]; rfl, ?_⟩
  rw [e1]
  exact ⟨SRow.nil _, SRow.nil _, H.out.op, by rw [← e1]; exact ok_forget H.out.ok⟩

set_option maxRecDepth 100000 in
set_option maxHeartbeats 2000000 in
theorem ref_end_closed (w : World) (m : Pst Int) (A1 : Option Addr) (c1 : Nat) (A2 : Option Addr) (c2 : Nat) (word : ByteArray) (frm : Int) (done : Bool) (h : RP w m (.slice A1 m.back.length c1) (.slice A2 m.again.length c2) word frm done) (ho : m.opn = none) :
    Calls Try.prog 47 #[.agg #[.bool false, .int .i64 m.st, .int .i64 m.most, .slice A1 m.back.length c1, .slice A2 m.again.length c2, .bool false, .string word, .int .i64 frm, .bool done]] w fun e w' => ∃ v', e = .returned (.tuple #[v', .int .i64 171]) ∧ RAt w' (endP m) v' ∧ Below w.heap.size w w' := by
  have H := Lib.hid h
  have HO := Lib.hid ho
  clear h ho
  go_enter Try.func47, Try.ntmps47
  go_wp2_with fail
  refine bodyPost_ret (ret_rt rfl _ _ (w.heap.size + 1) _ _ _ _ _ _ _ _ _ rfl (two_new w _ _).1) rfl ?_
  refine ⟨_, rfl, ?_, below_two w _ _⟩
  have K := fun o x => H.out.stays (Stays.of_below (below_two w o x))
  have e1 : endP m = m := by simp [endP, HO.out]
  exact ⟨_, _, word, frm, done, by rw [e1]; unfold rv; rw [HO.out]; rfl, by rw [e1]; exact K _ _⟩

set_option maxRecDepth 100000 in
set_option maxHeartbeats 2000000 in
theorem ref_end_none (w : World) (m : Pst Int) (A1 : Option Addr) (c1 : Nat) (A2 : Option Addr) (c2 : Nat) (word : ByteArray) (frm : Int) (s : Int) (wd : ByteArray) (h : RP w m (.slice A1 m.back.length c1) (.slice A2 m.again.length c2) word frm false) (ho : m.opn = some (s, wd, false)) :
    Calls Try.prog 47 #[.agg #[.bool false, .int .i64 m.st, .int .i64 m.most, .slice A1 m.back.length c1, .slice A2 m.again.length c2, .bool true, .string word, .int .i64 frm, .bool false]] w fun e w' => ∃ v', e = .returned (.tuple #[v', .int .i64 0]) ∧ RAt w' (endP m) v' ∧ Below w.heap.size w w' := by
  have H := Lib.hid h
  have HO := Lib.hid ho
  clear h ho
  go_enter Try.func47, Try.ntmps47
  go_wp2_with fail
  refine bodyPost_ret (ret_rt rfl _ _ (w.heap.size + 1) _ _ _ _ _ _ _ _ _ rfl (two_new w _ _).1) rfl ?_
  refine ⟨_, rfl, ?_, below_two w _ _⟩
  have K := fun o x => H.out.stays (Stays.of_below (below_two w o x))
  have e1 : endP m = { m with opn := none } := by simp [endP, HO.out]
  refine ⟨_, _, word, frm, false, by rw [e1]; rfl, ?_⟩
  rw [e1]
  exact ⟨(K _ _).rb, (K _ _).ra, (fun a b c e => by cases e), by rw [← e1]; exact ok_end H.out.ok⟩

set_option maxRecDepth 100000 in
set_option maxHeartbeats 2000000 in
theorem ref_end_did (w : World) (m : Pst Int) (A1 : Option Addr) (c1 : Nat) (A2 : Option Addr) (c2 : Nat) (word : ByteArray) (frm : Int) (s : Int) (wd : ByteArray) (h : RP w m (.slice A1 m.back.length c1) (.slice A2 m.again.length c2) word frm true) (ho : m.opn = some (s, wd, true)) :
    Calls Try.prog 47 #[.agg #[.bool false, .int .i64 m.st, .int .i64 m.most, .slice A1 m.back.length c1, .slice A2 m.again.length c2, .bool true, .string word, .int .i64 frm, .bool true]] w fun e w' => ∃ v', e = .returned (.tuple #[v', .int .i64 0]) ∧ RAt w' (endP m) v' ∧ Below w.heap.size w w' := by
  have H := Lib.hid h
  have HO := Lib.hid ho
  have hl : m.back.length ≤ 4096 := by have := h.ok.len; have := h.ok.mx; omega
  have hm := h.ok.mx
  have hlm : m.back.length ≤ m.most := by have := h.ok.len; omega
  obtain ⟨hw1, hw2, _⟩ := h.op _ _ _ ho
  subst hw1 hw2
  obtain ⟨W1, hW1⟩ : ∃ W1, W1 = (w.alloc (.cells #[.bool false, .int .i64 m.st, .int .i64 m.most, .slice A1 m.back.length c1, .slice A2 m.again.length c2, .bool false, .string word, .int .i64 frm, .bool true] 64)).alloc (.cells #[.bool false, .int .i64 0, .int .i64 0, .slice none 0 0, .slice none 0 0, .bool false, .string ⟨#[]⟩, .int .i64 0, .bool false] 64) := ⟨_, rfl⟩
  have B1 : Below w.heap.size w W1 := by rw [hW1]; exact below_two w _ _
  have hz1 : W1.heap.size = w.heap.size + 2 := by rw [hW1]; simp
  have x1 : Hid _ := Lib.hid (hW1 ▸ (two_new w _ _))
  have H1 := Lib.hid (H.out.stays (Stays.of_below B1))
  have HB1 := Lib.hid B1
  have HW1 := Lib.hid hW1
  clear h ho hW1 B1
  go_enter Try.func47, Try.ntmps47
  go_wp2_with fail
  rw [← HW1.out]
  refine (more_calls W1 _ m.back frm word m.most H1.out.rb hl hm).mono ?_
  rintro e w2 ⟨v', rfl, R2, _, L2⟩
  obtain ⟨A3, c3, rfl⟩ := R2.form
  have y1 := (L2.block _ (by omega)).trans x1.out.2
  have y2 := (L2.block _ (by omega)).trans x1.out.1
  obtain ⟨⟨p0, p1, p2, p3, p4, p5, p6, p7, p8⟩, pf⟩ := nine y1
  obtain ⟨⟨q0, q1, q2, q3, q4, q5, q6, q7, q8⟩, qf⟩ := nine y2
  have Y1 := Lib.hid y1
  have Y2 := Lib.hid y2
  have HR2 := Lib.hid R2
  have HL2 := Lib.hid L2
  clear y1 y2 R2 L2
  go_wp2_with fail
  have S1 := Stays.set (n := 3) Y1.out (.slice A3 (List.drop (m.back.length + 1 - m.most) (m.back ++ [(frm, word)])).length c3)
  have Z2 := (Below.heap_setCell w2 ⟨w.heap.size, 3, none⟩ (.slice A3 (List.drop (m.back.length + 1 - m.most) (m.back ++ [(frm, word)])).length c3) (w.heap.size + 1) (by show w.heap.size + 1 ≠ w.heap.size; omega)).trans Y2.out
  simp only [List.length_drop, List.length_append, List.length_cons, List.length_nil] at Z2 S1
  refine bodyPost_ret (ret_rt rfl _ _ (w.heap.size + 1) _ _ _ _ _ _ _ _ _ rfl (nine_set Z2 _ _ _ _ _ _ _ _ _)) rfl ?_
  have S2 := S1.trans (nine_stays Z2 (.bool false) (.int .i64 m.st) (.int .i64 m.most) (.slice A3 (m.back.length + 1 - (m.back.length + 1 - m.most)) c3) (.slice A2 m.again.length c2) (.bool false) (.string word) (.int .i64 frm) (.bool true))
  refine ⟨_, rfl, ?_, ?_⟩
  · have e1 : endP m = { m with opn := none, back := keepL m.most (m.back ++ [(frm, word)]) } := by simp [endP, HO.out, keepP]
    rw [keepL_drop _ _ _ hlm] at e1
    refine ⟨_, _, word, frm, true, by rw [e1]; rfl, ?_⟩
    refine ⟨?_, ?_, (fun a b c e => by rw [e1] at e; cases e), ok_end H.out.ok⟩
    · rw [e1]
      have := HR2.out.stays S2
      simpa using this
    · rw [e1]
      exact (H1.out.ra.stays (Stays.of_below HL2.out)).stays S2
  · exact (HB1.out.trans (HL2.out.mono (by omega))).trans (((Below.refl _ w2).setCell (p := ⟨w.heap.size, 3, none⟩) (Nat.le_refl _) _).trans (nine_below _ _ _ (Nat.le_succ _) _ _ _ _ _ _ _ _ _))

set_option maxRecDepth 100000 in
set_option maxHeartbeats 2000000 in
theorem ref_do_bad (w : World) (s : Int) (wd : ByteArray) :
    Calls Try.prog 43 #[bad, .int .i64 s, .string wd] w fun e w' => e = .returned (.tuple #[bad, .int .i64 1]) ∧ Below w.heap.size w w' := by
  unfold bad
  go_enter Try.func43, Try.ntmps43
  go_wp2_with fail
  refine bodyPost_ret (ret_rt rfl _ _ (w.heap.size + 1) _ _ _ _ _ _ _ _ _ rfl (two_new w _ _).1) rfl ?_
  exact ⟨rfl, below_two w _ _⟩

set_option maxRecDepth 100000 in
set_option maxHeartbeats 2000000 in
theorem ref_begin_bad (w : World) (wd : ByteArray) :
    Calls Try.prog 46 #[bad, .string wd] w fun e w' => e = .returned (.tuple #[bad, .int .i64 1]) ∧ Below w.heap.size w w' := by
  unfold bad
  go_enter Try.func46, Try.ntmps46
  go_wp2_with fail
  refine bodyPost_ret (ret_rt rfl _ _ (w.heap.size + 1) _ _ _ _ _ _ _ _ _ rfl (two_new w _ _).1) rfl ?_
  exact ⟨rfl, below_two w _ _⟩

set_option maxRecDepth 100000 in
set_option maxHeartbeats 2000000 in
theorem ref_end_bad (w : World) :
    Calls Try.prog 47 #[bad] w fun e w' => e = .returned (.tuple #[bad, .int .i64 1]) ∧ Below w.heap.size w w' := by
  unfold bad
  go_enter Try.func47, Try.ntmps47
  go_wp2_with fail
  refine bodyPost_ret (ret_rt rfl _ _ (w.heap.size + 1) _ _ _ _ _ _ _ _ _ rfl (two_new w _ _).1) rfl ?_
  exact ⟨rfl, below_two w _ _⟩

set_option maxRecDepth 100000 in
set_option maxHeartbeats 2000000 in
theorem ref_forget_bad (w : World) :
    Calls Try.prog 48 #[bad] w fun e w' => e = .returned (.tuple #[bad, .int .i64 1]) ∧ Below w.heap.size w w' := by
  unfold bad
  go_enter Try.func48, Try.ntmps48
  go_wp2_with fail
  refine bodyPost_ret (ret_rt rfl _ _ (w.heap.size + 1) _ _ _ _ _ _ _ _ _ rfl (two_new w _ _).1) rfl ?_
  exact ⟨rfl, below_two w _ _⟩

set_option maxRecDepth 100000 in
set_option maxHeartbeats 2000000 in
theorem ref_undo_bad (w : World) :
    Calls Try.prog 44 #[bad] w fun e w' => e = .returned (.tuple #[bad, .agg #[.int .i64 0, .string ⟨#[]⟩], .int .i64 1]) ∧ Below w.heap.size w w' := by
  unfold bad
  go_enter Try.func44, Try.ntmps44
  go_wp2_with fail
  refine bodyPost_ret (ret_rst rfl _ _ (w.heap.size + 1) (w.heap.size + 2) _ _ _ _ _ _ _ _ _ _ _ rfl rfl (three_new w _ _ _).2.1 (three_new w _ _ _).1) rfl ?_
  exact ⟨rfl, below_three w _ _ _⟩

set_option maxRecDepth 100000 in
set_option maxHeartbeats 2000000 in
theorem ref_redo_bad (w : World) :
    Calls Try.prog 45 #[bad] w fun e w' => e = .returned (.tuple #[bad, .agg #[.int .i64 0, .string ⟨#[]⟩], .int .i64 1]) ∧ Below w.heap.size w w' := by
  unfold bad
  go_enter Try.func45, Try.ntmps45
  go_wp2_with fail
  refine bodyPost_ret (ret_rst rfl _ _ (w.heap.size + 1) (w.heap.size + 2) _ _ _ _ _ _ _ _ _ _ _ rfl rfl (three_new w _ _ _).2.1 (three_new w _ _ _).1) rfl ?_
  exact ⟨rfl, below_three w _ _ _⟩

theorem ref_do (w : World) (m : Pst Int) (v : Value) (s : Int) (wd : ByteArray) (h : RAt w m v) :
    Calls Try.prog 43 #[v, .int .i64 s, .string wd] w fun e w' => ∃ v', e = .returned (.tuple #[v', .int .i64 0]) ∧ RAt w' (doP m s wd) v' ∧ Below w.heap.size w w' := by
  obtain ⟨vb, va, word, frm, done, rfl, h⟩ := h
  obtain ⟨A1, c1, rfl⟩ := h.rb.form
  obtain ⟨A2, c2, rfl⟩ := h.ra.form
  unfold rv
  cases ho : m.opn with
  | some x =>
    have ho' : m.opn.isSome = true := by rw [ho]; rfl
    skip
    exact ref_do_open w m A1 c1 A2 c2 word frm done s wd h ho'
  | none =>
    skip
    exact ref_do_closed w m A1 c1 A2 c2 word frm done s wd h ho

theorem ref_begin (w : World) (m : Pst Int) (v : Value) (wd : ByteArray) (h : RAt w m v) :
    Calls Try.prog 46 #[v, .string wd] w fun e w' => ∃ v', e = .returned (.tuple #[v', .int .i64 (closedN m)]) ∧ RAt w' (beginP m wd) v' ∧ Below w.heap.size w w' := by
  obtain ⟨vb, va, word, frm, done, rfl, h⟩ := h
  obtain ⟨A1, c1, rfl⟩ := h.rb.form
  obtain ⟨A2, c2, rfl⟩ := h.ra.form
  unfold rv
  cases ho : m.opn with
  | some x =>
    have ho' : m.opn.isSome = true := by rw [ho]; rfl
    rw [show closedN m = 171 by simp [closedN, ho]]
    exact ref_begin_open w m A1 c1 A2 c2 word frm done wd h ho'
  | none =>
    rw [show closedN m = 0 by simp [closedN, ho]]
    exact ref_begin_closed w m A1 c1 A2 c2 word frm done wd h ho

theorem ref_forget (w : World) (m : Pst Int) (v : Value) (h : RAt w m v) :
    Calls Try.prog 48 #[v] w fun e w' => ∃ v', e = .returned (.tuple #[v', .int .i64 (closedN m)]) ∧ RAt w' (forgetP m) v' ∧ Below w.heap.size w w' := by
  obtain ⟨vb, va, word, frm, done, rfl, h⟩ := h
  obtain ⟨A1, c1, rfl⟩ := h.rb.form
  obtain ⟨A2, c2, rfl⟩ := h.ra.form
  unfold rv
  cases ho : m.opn with
  | some x =>
    have ho' : m.opn.isSome = true := by rw [ho]; rfl
    rw [show closedN m = 171 by simp [closedN, ho]]
    exact ref_forget_open w m A1 c1 A2 c2 word frm done h ho'
  | none =>
    rw [show closedN m = 0 by simp [closedN, ho]]
    exact ref_forget_closed w m A1 c1 A2 c2 word frm done h ho

theorem ref_end (w : World) (m : Pst Int) (v : Value) (h : RAt w m v) :
    Calls Try.prog 47 #[v] w fun e w' => ∃ v', e = .returned (.tuple #[v', .int .i64 (endN m)]) ∧ RAt w' (endP m) v' ∧ Below w.heap.size w w' := by
  obtain ⟨vb, va, word, frm, done, rfl, h⟩ := h
  obtain ⟨A1, c1, rfl⟩ := h.rb.form
  obtain ⟨A2, c2, rfl⟩ := h.ra.form
  unfold rv
  cases ho : m.opn with
  | some x =>
    obtain ⟨s, wd, did⟩ := x
    rw [show endN m = 0 by simp [endN, ho]]
    obtain ⟨_, _, rfl⟩ := h.op _ _ _ ho
    cases done with
    | false => exact ref_end_none w m A1 c1 A2 c2 word frm s wd h ho
    | true => exact ref_end_did w m A1 c1 A2 c2 word frm s wd h ho
  | none =>
    rw [show endN m = 171 by simp [endN, ho]]
    exact ref_end_closed w m A1 c1 A2 c2 word frm done h ho

/-- what the document's Undo answers -/
theorem ref_undo (w : World) (m : Pst Int) (v : Value) (h : RAt w m v) :
    Calls Try.prog 44 #[v] w fun e w' => ∃ v' s wd, e = .returned (.tuple #[v', .agg #[.int .i64 s, .string wd], .int .i64 (undoA m).2]) ∧ (∀ x, (undoA m).1 = some x → s = x.1 ∧ wd = x.2) ∧ RAt w' (undoP m) v' ∧ (v' = v ∨ NewV w.heap.size v') ∧ Below w.heap.size w w' := by
  obtain ⟨vb, va, word, frm, done, rfl, h⟩ := h
  obtain ⟨A1, c1, rfl⟩ := h.rb.form
  obtain ⟨A2, c2, rfl⟩ := h.ra.form
  unfold rv
  cases ho : m.opn with
  | some x =>
    have ho' : m.opn.isSome = true := by rw [ho]; rfl
    refine (ref_undo_open w m A1 c1 A2 c2 word frm done h ho').mono ?_
    rintro e w' ⟨rfl, h2, L⟩
    have e1 : undoP m = m := by unfold undoP; rw [ho]
    refine ⟨_, 0, ⟨#[]⟩, by simp [undoA, ho], fun x hx => by simp [undoA, ho] at hx, ⟨_, _, word, frm, done, ?_, h2⟩, .inl rfl, L⟩
    rw [e1]; unfold rv; rw [ho]
  | none =>
    rcases List.eq_nil_or_concat m.back with hl | ⟨l, x, hl⟩
    · have hE := ref_undo_empty w m A1 c1 A2 c2 word frm done h ho hl
      have hlen : m.back.length = 0 := by rw [hl]; rfl
      rw [hlen]
      refine hE.mono ?_
      rintro e w' ⟨rfl, h2, L⟩
      have e1 : undoP m = m := by unfold undoP; rw [ho, hl]; rfl
      refine ⟨_, 0, ⟨#[]⟩, by simp [undoA, ho, hl], fun x hx => by simp [undoA, ho, hl] at hx, ⟨_, _, word, frm, done, ?_, h2⟩, .inl rfl, L⟩
      rw [e1]; unfold rv; rw [ho, hlen]
    · rw [List.concat_eq_append] at hl
      have hlen : m.back.length = l.length + 1 := by rw [hl]; simp
      have hs := h.rb
      rw [hl] at hs
      rw [show (l ++ [x]).length = l.length + 1 by simp] at hs
      obtain ⟨g, off, c, hv, _⟩ := hs.last
      cases hv
      have h' := h
      rw [hlen] at h' ⊢
      refine (ref_undo_some w m g off _ A2 c2 word frm done l x h' ho hl).mono ?_
      rintro e w' ⟨v', rfl, h2, hn, L⟩
      exact ⟨v', x.1, x.2, by simp [undoA, ho, hl], fun y hy => by simp [undoA, ho, hl] at hy; rw [← hy]; exact ⟨rfl, rfl⟩, h2, .inr hn, L⟩

/-- what the document's Redo answers -/
theorem ref_redo (w : World) (m : Pst Int) (v : Value) (h : RAt w m v) :
    Calls Try.prog 45 #[v] w fun e w' => ∃ v' s wd, e = .returned (.tuple #[v', .agg #[.int .i64 s, .string wd], .int .i64 (redoA m).2]) ∧ (∀ x, (redoA m).1 = some x → s = x.1 ∧ wd = x.2) ∧ RAt w' (redoP m) v' ∧ (v' = v ∨ NewV w.heap.size v') ∧ Below w.heap.size w w' := by
  obtain ⟨vb, va, word, frm, done, rfl, h⟩ := h
  obtain ⟨A1, c1, rfl⟩ := h.rb.form
  obtain ⟨A2, c2, rfl⟩ := h.ra.form
  unfold rv
  cases ho : m.opn with
  | some x =>
    have ho' : m.opn.isSome = true := by rw [ho]; rfl
    refine (ref_redo_open w m A1 c1 A2 c2 word frm done h ho').mono ?_
    rintro e w' ⟨rfl, h2, L⟩
    have e1 : redoP m = m := by unfold redoP; rw [ho]
    refine ⟨_, 0, ⟨#[]⟩, by simp [redoA, ho], fun x hx => by simp [redoA, ho] at hx, ⟨_, _, word, frm, done, ?_, h2⟩, .inl rfl, L⟩
    rw [e1]; unfold rv; rw [ho]
  | none =>
    rcases List.eq_nil_or_concat m.again with hl | ⟨l, x, hl⟩
    · have hE := ref_redo_empty w m A1 c1 A2 c2 word frm done h ho hl
      have hlen : m.again.length = 0 := by rw [hl]; rfl
      rw [hlen]
      refine hE.mono ?_
      rintro e w' ⟨rfl, h2, L⟩
      have e1 : redoP m = m := by unfold redoP; rw [ho, hl]; rfl
      refine ⟨_, 0, ⟨#[]⟩, by simp [redoA, ho, hl], fun x hx => by simp [redoA, ho, hl] at hx, ⟨_, _, word, frm, done, ?_, h2⟩, .inl rfl, L⟩
      rw [e1]; unfold rv; rw [ho, hlen]
    · rw [List.concat_eq_append] at hl
      have hlen : m.again.length = l.length + 1 := by rw [hl]; simp
      have hs := h.ra
      rw [hl] at hs
      rw [show (l ++ [x]).length = l.length + 1 by simp] at hs
      obtain ⟨g, off, c, hv, _⟩ := hs.last
      cases hv
      have h' := h
      rw [hlen] at h' ⊢
      refine (ref_redo_some w m A1 c1 g off _ word frm done l x h' ho hl).mono ?_
      rintro e w' ⟨v', rfl, h2, hn, L⟩
      exact ⟨v', x.1, x.2, by simp [redoA, ho, hl], fun y hy => by simp [redoA, ho, hl] at hy; rw [← hy]; exact ⟨rfl, rfl⟩, h2, .inr hn, L⟩
end Go.Proofs.Ytihfkoomimohbaa
