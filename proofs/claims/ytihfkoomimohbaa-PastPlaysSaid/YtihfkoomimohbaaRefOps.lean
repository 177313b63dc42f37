/- The document's past: New, Do, Undo, Redo, Begin, End, Forget. -/
import Derived.Test.YtihfkoomimohbaaRefMem
import Derived.Test.YtihfkoomimohbaaQ2
namespace Go.Proofs.Ytihfkoomimohbaa
open Go.RowKit Past17

def rv (m : Pst Int) (vb va : Value) (word : ByteArray) (frm : Int) (done : Bool) : Value :=
  .agg #[.bool false, .int .i64 m.st, .int .i64 m.most, vb, va, .bool m.opn.isSome, .string word, .int .i64 frm, .bool done]
structure RP (w : World) (m : Pst Int) (vb va : Value) (word : ByteArray) (frm : Int) (done : Bool) : Prop where
  rb : SRow w vb m.back
  ra : SRow w va m.again
  op : ∀ s wd did, m.opn = some (s, wd, did) → word = wd ∧ frm = s ∧ done = did
  ok : Ok m
def RAt (w : World) (m : Pst Int) (v : Value) : Prop := ∃ vb va word frm done, v = rv m vb va word frm done ∧ RP w m vb va word frm done
theorem RP.stays {w w' : World} {m : Pst Int} {vb va : Value} {word : ByteArray} {frm : Int} {done : Bool} (h : RP w m vb va word frm done) (hs : Stays w w') : RP w' m vb va word frm done := ⟨h.rb.stays hs, h.ra.stays hs, h.op, h.ok⟩
theorem RAt.stays {w w' : World} {m : Pst Int} {v : Value} (h : RAt w m v) (hs : Stays w w') : RAt w' m v := by
  obtain ⟨vb, va, word, frm, done, e, h⟩ := h
  exact ⟨vb, va, word, frm, done, e, h.stays hs⟩
theorem nine {w : World} {g : Nat} {t : TypeId} {a b c d e f i j k : Value} (h : w.heap[g]? = some (.cells #[a, b, c, d, e, f, i, j, k] t (0, 0))) :
    (w.cell? ⟨g, 0, none⟩ = some a ∧ w.cell? ⟨g, 1, none⟩ = some b ∧ w.cell? ⟨g, 2, none⟩ = some c ∧ w.cell? ⟨g, 3, none⟩ = some d ∧ w.cell? ⟨g, 4, none⟩ = some e ∧ w.cell? ⟨g, 5, none⟩ = some f ∧ w.cell? ⟨g, 6, none⟩ = some i ∧ w.cell? ⟨g, 7, none⟩ = some j ∧ w.cell? ⟨g, 8, none⟩ = some k) ∧
    (∀ n, w.frozen? ⟨g, n, none⟩ = false) :=
  ⟨⟨Pint.of_cells h 0 _ rfl, Pint.of_cells h 1 _ rfl, Pint.of_cells h 2 _ rfl, Pint.of_cells h 3 _ rfl, Pint.of_cells h 4 _ rfl, Pint.of_cells h 5 _ rfl, Pint.of_cells h 6 _ rfl, Pint.of_cells h 7 _ rfl, Pint.of_cells h 8 _ rfl⟩, fun n => Pint.no_ice h n⟩
theorem keepL_drop (most : Nat) (l : List (Int × ByteArray)) (x : Int × ByteArray) (h : l.length ≤ most) : keepL most (l ++ [x]) = (l ++ [x]).drop (l.length + 1 - most) := by
  unfold keepL
  by_cases h1 : most < (l ++ [x]).length
  · rw [if_pos h1]
    rw [List.length_append, List.length_singleton] at h1
    rw [show l.length + 1 - most = 1 by omega, List.drop_one]
  · rw [if_neg h1]
    rw [List.length_append, List.length_singleton] at h1
    rw [show l.length + 1 - most = 0 by omega, List.drop_zero]

theorem ret_rt {fn : Func} {p u : Tmp} (h : fn.results = #[.cell p 64, .tmp u]) (tmps : Array Value) (w : World) (g : Nat) (a b c d e f i j k : Value)
    (hp : tmps.getD p undef = .pointer (some ⟨g, 0, none⟩)) (hg : w.heap[g]? = some (.cells #[a, b, c, d, e, f, i, j, k] 64 (0, 0))) :
    (results fn tmps).run Try.prog w = .ok (.tuple #[.agg #[a, b, c, d, e, f, i, j, k], tmps.getD u undef]) w := by
  have hp' : tmps[p]?.getD undef = .pointer (some ⟨g, 0, none⟩) := by simpa using hp
  simp [results, h, hp', asAddr, run_loadVar_row w g _ 64 _ _ _ hg Try.underlying64 rfl (by simp only [List.size_toArray, List.length_cons, List.length_nil]; kernel_rfl)]
theorem arr9 (a b c d e f i j k x0 x1 x2 x3 x4 x5 x6 x7 x8 : Value) : (((((((((#[a, b, c, d, e, f, i, j, k].setIfInBounds 0 x0).setIfInBounds 1 x1).setIfInBounds 2 x2).setIfInBounds 3 x3).setIfInBounds 4 x4).setIfInBounds 5 x5).setIfInBounds 6 x6).setIfInBounds 7 x7).setIfInBounds 8 x8) = #[x0, x1, x2, x3, x4, x5, x6, x7, x8] := by simp
theorem nine_set {W : World} {g : Nat} {t : TypeId} {a b c d e f i j k : Value} (h : W.heap[g]? = some (.cells #[a, b, c, d, e, f, i, j, k] t (0, 0))) (x0 x1 x2 x3 x4 x5 x6 x7 x8 : Value) :
    (((((((((W.setCell ⟨g, 0, none⟩ x0).setCell ⟨g, 1, none⟩ x1).setCell ⟨g, 2, none⟩ x2).setCell ⟨g, 3, none⟩ x3).setCell ⟨g, 4, none⟩ x4).setCell ⟨g, 5, none⟩ x5).setCell ⟨g, 6, none⟩ x6).setCell ⟨g, 7, none⟩ x7).setCell ⟨g, 8, none⟩ x8).heap[g]? = some (.cells #[x0, x1, x2, x3, x4, x5, x6, x7, x8] t (0, 0)) := by
  rw [← arr9 a b c d e f i j k]
  exact Pint.set_row (Pint.set_row (Pint.set_row (Pint.set_row (Pint.set_row (Pint.set_row (Pint.set_row (Pint.set_row (Pint.set_row h))))))))
theorem nine_below (W : World) (B g : Nat) (hg : B ≤ g) (x0 x1 x2 x3 x4 x5 x6 x7 x8 : Value) : Below B W (((((((((W.setCell ⟨g, 0, none⟩ x0).setCell ⟨g, 1, none⟩ x1).setCell ⟨g, 2, none⟩ x2).setCell ⟨g, 3, none⟩ x3).setCell ⟨g, 4, none⟩ x4).setCell ⟨g, 5, none⟩ x5).setCell ⟨g, 6, none⟩ x6).setCell ⟨g, 7, none⟩ x7).setCell ⟨g, 8, none⟩ x8) :=
  ((((((((((Below.refl B W).setCell (p := ⟨g, 0, none⟩) hg _).setCell (p := ⟨g, 1, none⟩) hg _).setCell (p := ⟨g, 2, none⟩) hg _).setCell (p := ⟨g, 3, none⟩) hg _).setCell (p := ⟨g, 4, none⟩) hg _).setCell (p := ⟨g, 5, none⟩) hg _).setCell (p := ⟨g, 6, none⟩) hg _).setCell (p := ⟨g, 7, none⟩) hg _).setCell (p := ⟨g, 8, none⟩) hg _)
theorem Stays.refl (w : World) : Stays w w := fun _ _ e => e
theorem Stays.trans {a b c : World} (h : Stays a b) (k : Stays b c) : Stays a c := fun g cs e => k g cs (h g cs e)
theorem Stays.set {W : World} {g n : Nat} {cs : Array Value} (h : W.heap[g]? = some (.cells cs 64 (0, 0))) (v : Value) : Stays W (W.setCell ⟨g, n, none⟩ v) := fun b cs' e => by
  have hb : b ≠ g := fun e' => by subst e'; rw [h] at e; cases e
  exact (Below.heap_setCell W ⟨g, n, none⟩ v b hb).trans e
theorem nine_stays {W : World} {g : Nat} {cs : Array Value} (h : W.heap[g]? = some (.cells cs 64 (0, 0))) (x0 x1 x2 x3 x4 x5 x6 x7 x8 : Value) : Stays W (((((((((W.setCell ⟨g, 0, none⟩ x0).setCell ⟨g, 1, none⟩ x1).setCell ⟨g, 2, none⟩ x2).setCell ⟨g, 3, none⟩ x3).setCell ⟨g, 4, none⟩ x4).setCell ⟨g, 5, none⟩ x5).setCell ⟨g, 6, none⟩ x6).setCell ⟨g, 7, none⟩ x7).setCell ⟨g, 8, none⟩ x8) := fun b cs' e => by
  have hb : b ≠ g := fun e' => by subst e'; rw [h] at e; cases e
  have key : ∀ (W : World) (n : Nat) (v : Value), (W.setCell ⟨g, n, none⟩ v).heap[b]? = W.heap[b]? := fun W n v => Below.heap_setCell W ⟨g, n, none⟩ v b hb
  rw [key, key, key, key, key, key, key, key, key]
  exact e
theorem nine_far (W : World) (k g : Nat) (hk : k ≠ g) (x0 x1 x2 x3 x4 x5 x6 x7 x8 : Value) : (((((((((W.setCell ⟨g, 0, none⟩ x0).setCell ⟨g, 1, none⟩ x1).setCell ⟨g, 2, none⟩ x2).setCell ⟨g, 3, none⟩ x3).setCell ⟨g, 4, none⟩ x4).setCell ⟨g, 5, none⟩ x5).setCell ⟨g, 6, none⟩ x6).setCell ⟨g, 7, none⟩ x7).setCell ⟨g, 8, none⟩ x8).heap[k]? = W.heap[k]? := by
  have key : ∀ (W : World) (n : Nat) (v : Value), (W.setCell ⟨g, n, none⟩ v).heap[k]? = W.heap[k]? := fun W n v => Below.heap_setCell W ⟨g, n, none⟩ v k hk
  rw [key, key, key, key, key, key, key, key, key]
theorem two_new (w : World) (o x : Obj) : ((w.alloc o).alloc x).heap[w.heap.size + 1]? = some x ∧ ((w.alloc o).alloc x).heap[w.heap.size]? = some o := by
  refine ⟨?_, ?_⟩
  · have := World.alloc_heap_new (w.alloc o) x
    simpa using this
  · exact (Below.heap_alloc _ _ _ (by simp)).trans (World.alloc_heap_new w o)
theorem below_two (w : World) (o x : Obj) : Below w.heap.size w ((w.alloc o).alloc x) := ((Below.refl _ w).alloc (Nat.le_refl _) _).alloc (by simp) _
/-- two stores into another block -/
theorem far_two {W : World} {g k i j : Nat} {x y : Value} {o : Option Obj} (h : W.heap[k]? = o) (hk : k ≠ g) : ((W.setCell ⟨g, i, none⟩ x).setCell ⟨g, j, none⟩ y).heap[k]? = o :=
  ((Below.heap_setCell _ ⟨g, j, none⟩ y k hk).trans (Below.heap_setCell W ⟨g, i, none⟩ x k hk)).trans h

set_option maxRecDepth 100000 in
set_option maxHeartbeats 2000000 in
theorem ref_do_open (w : World) (m : Pst Int) (A1 : Option Addr) (c1 : Nat) (A2 : Option Addr) (c2 : Nat) (word : ByteArray) (frm : Int) (done : Bool) (s : Int) (wd : ByteArray) (h : RP w m (.slice A1 m.back.length c1) (.slice A2 m.again.length c2) word frm done) (ho : m.opn.isSome = true) :
    Calls Try.prog 43 #[.agg #[.bool false, .int .i64 m.st, .int .i64 m.most, .slice A1 m.back.length c1, .slice A2 m.again.length c2, .bool true, .string word, .int .i64 frm, .bool done], .int .i64 s, .string wd] w fun e w' => ∃ v', e = .returned (.tuple #[v', .int .i64 0]) ∧ RAt w' (doP m s wd) v' ∧ Below w.heap.size w w' := by
  have H := Lib.hid h
  have HO := Lib.hid ho
  clear h ho
  go_enter Try.func43, Try.ntmps43
  go_wp2_with fail
  refine bodyPost_ret (ret_rt rfl _ _ (w.heap.size + 1) _ _ _ _ _ _ _ _ _ rfl (two_new w _ _).1) rfl ?_
  refine ⟨_, rfl, ?_, below_two w _ _⟩
  obtain ⟨x, hx⟩ := Option.isSome_iff_exists.1 HO.out
  obtain ⟨s0, wd0, did0⟩ := x
  have h1 := (H.out.op s0 wd0 did0 hx)
  have e1 : doP m s wd = { m with again := [], opn := some (s0, wd0, true), st := s } := by unfold doP; rw [hx]
  refine ⟨_, _, word, frm, true, by rw [e1]; rfl, ?_⟩
  rw [e1]
  exact ⟨H.out.rb.stays (Stays.of_below (below_two w _ _)), SRow.nil _, fun a b c e => by cases e; exact ⟨h1.1, h1.2.1, rfl⟩, by rw [← e1]; exact ok_do H.out.ok s wd⟩

set_option maxRecDepth 100000 in
set_option maxHeartbeats 2000000 in
theorem ref_do_closed (w : World) (m : Pst Int) (A1 : Option Addr) (c1 : Nat) (A2 : Option Addr) (c2 : Nat) (word : ByteArray) (frm : Int) (done : Bool) (s : Int) (wd : ByteArray) (h : RP w m (.slice A1 m.back.length c1) (.slice A2 m.again.length c2) word frm done) (ho : m.opn = none) :
    Calls Try.prog 43 #[.agg #[.bool false, .int .i64 m.st, .int .i64 m.most, .slice A1 m.back.length c1, .slice A2 m.again.length c2, .bool false, .string word, .int .i64 frm, .bool done], .int .i64 s, .string wd] w fun e w' => ∃ v', e = .returned (.tuple #[v', .int .i64 0]) ∧ RAt w' (doP m s wd) v' ∧ Below w.heap.size w w' := by
  have H := Lib.hid h
  have HO := Lib.hid ho
  have hl : m.back.length ≤ 4096 := by have := h.ok.len; have := h.ok.mx; omega
  have hm := h.ok.mx
  have hlm : m.back.length ≤ m.most := by have := h.ok.len; omega
  obtain ⟨W1, hW1⟩ : ∃ W1, W1 = (w.alloc (.cells #[.bool false, .int .i64 m.st, .int .i64 m.most, .slice A1 m.back.length c1, .slice none 0 0, .bool false, .string word, .int .i64 frm, .bool done] 64)).alloc (.cells #[.bool false, .int .i64 0, .int .i64 0, .slice none 0 0, .slice none 0 0, .bool false, .string ⟨#[]⟩, .int .i64 0, .bool false] 64) := ⟨_, rfl⟩
  have B1 : Below w.heap.size w W1 := by rw [hW1]; exact below_two w _ _
  have hz1 : W1.heap.size = w.heap.size + 2 := by rw [hW1]; simp
  have x1 : Hid _ := Lib.hid (hW1 ▸ (two_new w _ _))
  have H1 := Lib.hid (H.out.stays (Stays.of_below B1))
  have HB1 := Lib.hid B1
  have HW1 := Lib.hid hW1
  clear h ho hW1 B1
  go_enter Try.func43, Try.ntmps43
  go_wp2_with fail
  rw [← HW1.out]
  refine (more_calls W1 _ m.back m.st wd m.most H1.out.rb hl hm).mono ?_
  rintro e w2 ⟨v', rfl, R2, _, L2⟩
  obtain ⟨A3, c3, rfl⟩ := R2.form
  have y1 := (L2.block _ (by omega)).trans x1.out.2
  have y2 := (L2.block _ (by omega)).trans x1.out.1
  obtain ⟨⟨p0, p1, p2, p3, p4, p5, p6, p7, p8⟩, pf⟩ := nine y1
  obtain ⟨⟨q0, q1, q2, q3, q4, q5, q6, q7, q8⟩, qf⟩ := nine y2
  have Y1 := Lib.hid y1
  have Y2 := Lib.hid y2
  have HR2 := Lib.hid R2
  have HL2 := Lib.hid L2
  clear y1 y2 R2 L2
  go_wp2_with fail
  have Z2 := far_two (g := w.heap.size) (i := 3) (j := 1) (x := .slice A3 (List.drop (m.back.length + 1 - m.most) (m.back ++ [(m.st, wd)])).length c3) (y := .int .i64 s) Y2.out (by omega)
  simp only [List.length_drop, List.length_append, List.length_cons, List.length_nil] at Z2
  refine bodyPost_ret (ret_rt rfl _ _ (w.heap.size + 1) _ _ _ _ _ _ _ _ _ rfl (nine_set Z2 _ _ _ _ _ _ _ _ _)) rfl ?_
  have S2 := ((Stays.set Y1.out (n := 3) _).trans (Stays.set (Pint.set_row Y1.out) (n := 1) _)).trans (nine_stays Z2 (.bool false) (.int .i64 s) (.int .i64 m.most) (.slice A3 (m.back.length + 1 - (m.back.length + 1 - m.most)) c3) (.slice none 0 0) (.bool false) (.string word) (.int .i64 frm) (.bool done))
  refine ⟨_, rfl, ?_, ?_⟩
  · have e1 := do_closed HO.out s wd
    rw [keepL_drop _ _ _ hlm] at e1
    refine ⟨_, _, word, frm, done, by rw [e1]; rfl, ?_⟩
    refine ⟨?_, ?_, (fun a b c e => by rw [e1] at e; cases e), ok_do H.out.ok s wd⟩
    · rw [e1]
      have := HR2.out.stays S2
      simpa using this
    · rw [e1]; exact SRow.nil _
  · exact (HB1.out.trans (HL2.out.mono (by omega))).trans ((((Below.refl _ w2).setCell (p := ⟨w.heap.size, 3, none⟩) (Nat.le_refl _) _).setCell (p := ⟨w.heap.size, 1, none⟩) (Nat.le_refl _) _).trans (nine_below _ _ _ (Nat.le_succ _) _ _ _ _ _ _ _ _ _))
end Go.Proofs.Ytihfkoomimohbaa
