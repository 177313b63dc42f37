/- The document's past: Undo, Redo. -/
import Derived.Test.YtihfkoomimohbaaRefOps
namespace Go.Proofs.Ytihfkoomimohbaa
open Go.RowKit Past17

theorem ret_rst {fn : Func} {p q u : Tmp} (h : fn.results = #[.cell p 64, .cell q 98, .tmp u]) (tmps : Array Value) (w : World) (g g' : Nat) (a b c d e f i j k x y : Value)
    (hp : tmps.getD p undef = .pointer (some ⟨g, 0, none⟩)) (hq : tmps.getD q undef = .pointer (some ⟨g', 0, none⟩)) (hg : w.heap[g]? = some (.cells #[a, b, c, d, e, f, i, j, k] 64 (0, 0))) (hg' : w.heap[g']? = some (.cells #[x, y] 98 (0, 0))) :
    (results fn tmps).run Try.prog w = .ok (.tuple #[.agg #[a, b, c, d, e, f, i, j, k], .agg #[x, y], tmps.getD u undef]) w := by
  have hp' : tmps[p]?.getD undef = .pointer (some ⟨g, 0, none⟩) := by simpa using hp
  have hq' : tmps[q]?.getD undef = .pointer (some ⟨g', 0, none⟩) := by simpa using hq
  simp [results, h, hp', hq', asAddr, run_loadVar_row w g _ 64 _ _ _ hg Try.underlying64 rfl (by simp only [List.size_toArray, List.length_cons, List.length_nil]; kernel_rfl), run_loadVar_row w g' _ 98 _ _ _ hg' Try.underlying98 rfl (by simp only [List.size_toArray, List.length_cons, List.length_nil]; kernel_rfl)]
theorem three_new (w : World) (o x y : Obj) : (((w.alloc o).alloc x).alloc y).heap[w.heap.size + 2]? = some y ∧ (((w.alloc o).alloc x).alloc y).heap[w.heap.size + 1]? = some x ∧ (((w.alloc o).alloc x).alloc y).heap[w.heap.size]? = some o := by
  refine ⟨?_, ?_, ?_⟩
  · have := World.alloc_heap_new ((w.alloc o).alloc x) y
    simpa using this
  · exact (Below.heap_alloc _ _ _ (by simp)).trans (two_new w o x).1
  · exact (Below.heap_alloc _ _ _ (by simp <;> omega)).trans (two_new w o x).2
theorem below_three (w : World) (o x y : Obj) : Below w.heap.size w (((w.alloc o).alloc x).alloc y) := (below_two w o x).alloc (by simp <;> omega) _
theorem end_facts (W : World) (n : Nat) (a b c d e f i j k s t : Value) (v1 : W.heap[n + 1]? = some (.cells #[a, b, c, d, e, f, i, j, k] 64 (0, 0))) (v2 : W.heap[n + 2]? = some (.cells #[s, t] 98 (0, 0))) (x0 x1 x2 x3 x4 x5 x6 x7 x8 p q : Value) :
    ∃ W7, W7 = (((((((((((W.setCell ⟨n + 1, 0, none⟩ x0).setCell ⟨n + 1, 1, none⟩ x1).setCell ⟨n + 1, 2, none⟩ x2).setCell ⟨n + 1, 3, none⟩ x3).setCell ⟨n + 1, 4, none⟩ x4).setCell ⟨n + 1, 5, none⟩ x5).setCell ⟨n + 1, 6, none⟩ x6).setCell ⟨n + 1, 7, none⟩ x7).setCell ⟨n + 1, 8, none⟩ x8).setCell ⟨n + 1 + 1, 0, none⟩ p).setCell ⟨n + 1 + 1, 1, none⟩ q).drew ∧ W7.heap[n + 1]? = some (.cells #[x0, x1, x2, x3, x4, x5, x6, x7, x8] 64 (0, 0)) ∧ W7.heap[n + 1 + 1]? = some (.cells #[p, q] 98 (0, 0)) ∧ Below n W W7 ∧ (∀ v l, SRow W v l → (∀ k, v.ownBlock = some k → n + 4 ≤ k) → SRow W7 v l) := by
  obtain ⟨A, hA⟩ : ∃ A, A = (((((((((W.setCell ⟨n + 1, 0, none⟩ x0).setCell ⟨n + 1, 1, none⟩ x1).setCell ⟨n + 1, 2, none⟩ x2).setCell ⟨n + 1, 3, none⟩ x3).setCell ⟨n + 1, 4, none⟩ x4).setCell ⟨n + 1, 5, none⟩ x5).setCell ⟨n + 1, 6, none⟩ x6).setCell ⟨n + 1, 7, none⟩ x7).setCell ⟨n + 1, 8, none⟩ x8) := ⟨_, rfl⟩
  have a1 : A.heap[n + 1]? = some (.cells #[x0, x1, x2, x3, x4, x5, x6, x7, x8] 64 (0, 0)) := by rw [hA]; exact nine_set v1 _ _ _ _ _ _ _ _ _
  have a2 : A.heap[n + 2]? = some (.cells #[s, t] 98 (0, 0)) := by rw [hA]; exact (nine_far _ _ _ (by omega) _ _ _ _ _ _ _ _ _).trans v2
  have a3 : Below n W A := by rw [hA]; exact nine_below _ _ _ (Nat.le_succ _) _ _ _ _ _ _ _ _ _
  have a4 : Stays W A := by rw [hA]; exact nine_stays v1 x0 x1 x2 x3 x4 x5 x6 x7 x8
  rw [← hA]
  clear hA
  obtain ⟨D, hD⟩ : ∃ D, D = (A.setCell ⟨n + 1 + 1, 0, none⟩ p).setCell ⟨n + 1 + 1, 1, none⟩ q := ⟨_, rfl⟩
  have d1 : D.heap[n + 1]? = some (.cells #[x0, x1, x2, x3, x4, x5, x6, x7, x8] 64 (0, 0)) := by rw [hD]; exact far_two a1 (by omega)
  have d2 : D.heap[n + 2]? = some (.cells #[p, q] 98 (0, 0)) := by rw [hD]; exact Pint.set_row (Pint.set_row a2)
  have d3 : Below n A D := by rw [hD]; exact ((Below.refl n A).setCell (p := ⟨n + 1 + 1, 0, none⟩) (by show _ ≤ _ + 1 + 1; omega) _).setCell (p := ⟨n + 1 + 1, 1, none⟩) (by show _ ≤ _ + 1 + 1; omega) _
  have d4 : ∀ v l, SRow A v l → (∀ k, v.ownBlock = some k → n + 4 ≤ k) → SRow D v l := fun v l h hk => by
    rw [hD]; exact (h.setFar (g := n + 1 + 1) (i := 0) (fun e => by have := hk _ e; omega) p).setFar (g := n + 1 + 1) (i := 1) (fun e => by have := hk _ e; omega) q
  rw [← hD]
  exact ⟨D.drew, rfl, d1, d2, a3.trans d3.drew, fun v l h hk => (d4 v l (h.stays a4) hk).stays (fun _ _ e => e)⟩
def vB : Value → Value
  | .agg a => a.getD 3 undef
  | _ => undef
def vA : Value → Value
  | .agg a => a.getD 4 undef
  | _ => undef
/-- its lists lie in blocks from n on -/
def NewV (n : Nat) (v : Value) : Prop := (∀ k, (vB v).ownBlock = some k → n ≤ k) ∧ (∀ k, (vA v).ownBlock = some k → n ≤ k)
def bad : Value := .agg #[.bool true, .int .i64 0, .int .i64 0, .slice none 0 0, .slice none 0 0, .bool false, .string ⟨#[]⟩, .int .i64 0, .bool false]

set_option maxRecDepth 100000 in
set_option maxHeartbeats 2000000 in
theorem ref_undo_open (w : World) (m : Pst Int) (A1 : Option Addr) (c1 : Nat) (A2 : Option Addr) (c2 : Nat) (word : ByteArray) (frm : Int) (done : Bool) (h : RP w m (.slice A1 m.back.length c1) (.slice A2 m.again.length c2) word frm done) (ho : m.opn.isSome = true) :
    Calls Try.prog 44 #[.agg #[.bool false, .int .i64 m.st, .int .i64 m.most, .slice A1 m.back.length c1, .slice A2 m.again.length c2, .bool true, .string word, .int .i64 frm, .bool done]] w fun e w' => e = .returned (.tuple #[.agg #[.bool false, .int .i64 m.st, .int .i64 m.most, .slice A1 m.back.length c1, .slice A2 m.again.length c2, .bool true, .string word, .int .i64 frm, .bool done], .agg #[.int .i64 0, .string ⟨#[]⟩], .int .i64 171]) ∧ RP w' (undoP m) (.slice A1 m.back.length c1) (.slice A2 m.again.length c2) word frm done ∧ Below w.heap.size w w' := by
  have H := Lib.hid h
  have HO := Lib.hid ho
  clear h ho
  go_enter Try.func44, Try.ntmps44
  go_wp2_with fail
  refine bodyPost_ret (ret_rst rfl _ _ (w.heap.size + 1) (w.heap.size + 2) _ _ _ _ _ _ _ _ _ _ _ rfl rfl (three_new w _ _ _).2.1 (three_new w _ _ _).1) rfl ?_
  refine ⟨rfl, ?_, below_three w _ _ _⟩
  have e1 : undoP m = m := by
    obtain ⟨x, hx⟩ := Option.isSome_iff_exists.1 HO.out
    unfold undoP; rw [hx]
  rw [e1]
  exact H.out.stays (Stays.of_below (below_three w _ _ _))

set_option maxRecDepth 100000 in
set_option maxHeartbeats 2000000 in
theorem ref_undo_empty (w : World) (m : Pst Int) (A1 : Option Addr) (c1 : Nat) (A2 : Option Addr) (c2 : Nat) (word : ByteArray) (frm : Int) (done : Bool) (h : RP w m (.slice A1 m.back.length c1) (.slice A2 m.again.length c2) word frm done) (ho : m.opn = none) (hl : m.back = []) :
    Calls Try.prog 44 #[.agg #[.bool false, .int .i64 m.st, .int .i64 m.most, .slice A1 0 c1, .slice A2 m.again.length c2, .bool false, .string word, .int .i64 frm, .bool done]] w fun e w' => e = .returned (.tuple #[.agg #[.bool false, .int .i64 m.st, .int .i64 m.most, .slice A1 0 c1, .slice A2 m.again.length c2, .bool false, .string word, .int .i64 frm, .bool done], .agg #[.int .i64 0, .string ⟨#[]⟩], .int .i64 170]) ∧ RP w' (undoP m) (.slice A1 m.back.length c1) (.slice A2 m.again.length c2) word frm done ∧ Below w.heap.size w w' := by
  have H := Lib.hid h
  have HO := Lib.hid ho
  have HL := Lib.hid hl
  clear h ho hl
  go_enter Try.func44, Try.ntmps44
  go_wp2_with fail
  refine bodyPost_ret (ret_rst rfl _ _ (w.heap.size + 1) (w.heap.size + 2) _ _ _ _ _ _ _ _ _ _ _ rfl rfl (three_new w _ _ _).2.1 (three_new w _ _ _).1) rfl ?_
  refine ⟨rfl, ?_, below_three w _ _ _⟩
  have e1 : undoP m = m := by unfold undoP; rw [HO.out, HL.out]; rfl
  rw [e1]
  exact H.out.stays (Stays.of_below (below_three w _ _ _))

set_option maxRecDepth 100000 in
set_option maxHeartbeats 2000000 in
theorem ref_undo_some (w : World) (m : Pst Int) (g off cF : Nat) (A2 : Option Addr) (c2 : Nat) (word : ByteArray) (frm : Int) (done : Bool) (l : List (Int × ByteArray)) (x : Int × ByteArray) (h : RP w m (.slice (some ⟨g, off, none⟩) (l.length + 1) cF) (.slice A2 m.again.length c2) word frm done) (ho : m.opn = none) (hl : m.back = l ++ [x]) :
    Calls Try.prog 44 #[.agg #[.bool false, .int .i64 m.st, .int .i64 m.most, .slice (some ⟨g, off, none⟩) (l.length + 1) cF, .slice A2 m.again.length c2, .bool false, .string word, .int .i64 frm, .bool done]] w fun e w' => ∃ v', e = .returned (.tuple #[v', .agg #[.int .i64 x.1, .string x.2], .int .i64 0]) ∧ RAt w' (undoP m) v' ∧ NewV w.heap.size v' ∧ Below w.heap.size w w' := by
  have H := Lib.hid h
  have HO := Lib.hid ho
  have HL := Lib.hid hl
  have hlen := congrArg List.length hl
  rw [List.length_append, List.length_singleton] at hlen
  have hlx : l.length + m.again.length < m.most := by have := h.ok.len; omega
  have hmx := h.ok.mx
  have hll : l.length ≤ 4096 := by omega
  have htl : m.again.length ≤ 4096 := by omega
  have hsF : SRow w (.slice (some ⟨g, off, none⟩) (l.length + 1) cF) (l ++ [x]) := by have := h.rb; rwa [hl] at this
  obtain ⟨g', off', cF', e', hcF, k0, k1⟩ := hsF.last
  cases e'
  have hgl : g < w.heap.size := World.block_lt_of_cell? w _ k0
  have hg0 : ¬ g = w.heap.size := by omega
  have hg1 : ¬ g = w.heap.size + 1 := by omega
  have hg2 : ¬ g = w.heap.size + 1 + 1 := by omega
  have hb0 : ((l.length : Int) + 1 == 0) = false := beq_eq_false_iff_ne.2 (by omega)
  have hcF2 : (l.length : Int) < cF := by omega
  obtain ⟨W2, hW2⟩ : ∃ W2, W2 = (((w.alloc (.cells #[.bool false, .int .i64 m.st, .int .i64 m.most, .slice (some ⟨g, off, none⟩) (l.length + 1) cF, .slice A2 m.again.length c2, .bool false, .string word, .int .i64 frm, .bool done] 64)).alloc (.cells #[.bool false, .int .i64 0, .int .i64 0, .slice none 0 0, .slice none 0 0, .bool false, .string ⟨#[]⟩, .int .i64 0, .bool false] 64)).alloc (.cells #[.int .i64 0, .string ⟨#[]⟩] 98)).alloc (.cells #[.int .i64 x.1, .string x.2] 98) := ⟨_, rfl⟩
  have B2 : Below w.heap.size w W2 := by rw [hW2]; exact (below_three w _ _ _).alloc (by simp <;> omega) _
  have hz2 : W2.heap.size = w.heap.size + 4 := by rw [hW2]; simp
  have x2 : Hid (W2.heap[w.heap.size + 3]? = some (.cells #[.int .i64 x.1, .string x.2] 98 (0, 0)) ∧ W2.heap[w.heap.size + 2]? = some (.cells #[.int .i64 0, .string ⟨#[]⟩] 98 (0, 0)) ∧ W2.heap[w.heap.size + 1]? = some (.cells #[.bool false, .int .i64 0, .int .i64 0, .slice none 0 0, .slice none 0 0, .bool false, .string ⟨#[]⟩, .int .i64 0, .bool false] 64 (0, 0)) ∧ W2.heap[w.heap.size]? = some (.cells #[.bool false, .int .i64 m.st, .int .i64 m.most, .slice (some ⟨g, off, none⟩) (l.length + 1) cF, .slice A2 m.again.length c2, .bool false, .string word, .int .i64 frm, .bool done] 64 (0, 0))) := by
    refine Lib.hid ?_
    rw [hW2]
    refine ⟨?_, (Below.heap_alloc _ _ _ (by simp)).trans (three_new w _ _ _).1, (Below.heap_alloc _ _ _ (by simp <;> omega)).trans (three_new w _ _ _).2.1, (Below.heap_alloc _ _ _ (by simp <;> omega)).trans (three_new w _ _ _).2.2⟩
    have := World.alloc_heap_new (((w.alloc (.cells #[.bool false, .int .i64 m.st, .int .i64 m.most, .slice (some ⟨g, off, none⟩) (l.length + 1) cF, .slice A2 m.again.length c2, .bool false, .string word, .int .i64 frm, .bool done] 64)).alloc (.cells #[.bool false, .int .i64 0, .int .i64 0, .slice none 0 0, .slice none 0 0, .bool false, .string ⟨#[]⟩, .int .i64 0, .bool false] 64)).alloc (.cells #[.int .i64 0, .string ⟨#[]⟩] 98)) (.cells #[.int .i64 x.1, .string x.2] 98)
    simpa using this
  have hsF2 := Lib.hid (hsF.stays (Stays.of_below B2))
  have hsT2 := Lib.hid ((h.ra).stays (Stays.of_below B2))
  have HB2 := Lib.hid B2
  have HW2 := Lib.hid hW2
  have k0 := ((below_three w (.cells #[.bool false, .int .i64 m.st, .int .i64 m.most, .slice (some ⟨g, off, none⟩) (l.length + 1) cF, .slice A2 m.again.length c2, .bool false, .string word, .int .i64 frm, .bool done] 64) (.cells #[.bool false, .int .i64 0, .int .i64 0, .slice none 0 0, .slice none 0 0, .bool false, .string ⟨#[]⟩, .int .i64 0, .bool false] 64) (.cells #[.int .i64 0, .string ⟨#[]⟩] 98)).cell (p := ⟨g, off + l.length * 2, none⟩) hgl).trans k0
  have k1 := ((below_three w (.cells #[.bool false, .int .i64 m.st, .int .i64 m.most, .slice (some ⟨g, off, none⟩) (l.length + 1) cF, .slice A2 m.again.length c2, .bool false, .string word, .int .i64 frm, .bool done] 64) (.cells #[.bool false, .int .i64 0, .int .i64 0, .slice none 0 0, .slice none 0 0, .bool false, .string ⟨#[]⟩, .int .i64 0, .bool false] 64) (.cells #[.int .i64 0, .string ⟨#[]⟩] 98)).cell (p := ⟨g, off + l.length * 2 + 1, none⟩) hgl).trans k1
  clear h ho hl hW2 B2 hsF hlen
  go_enter Try.func44, Try.ntmps44
  go_wp2_with fail
  rw [← HW2.out]
  refine (less_calls W2 g off cF l x hsF2.out hll hcF).mono ?_
  rintro e w3 ⟨v', rfl, R3, F3, L3⟩
  obtain ⟨A5, c5, rfl⟩ := R3.form
  have y0 := (L3.block _ (by omega)).trans x2.out.2.2.2
  have y1 := (L3.block _ (by omega)).trans x2.out.2.2.1
  have y2 := (L3.block _ (by omega)).trans x2.out.2.1
  have y3 := (L3.block _ (by omega)).trans x2.out.1
  have hz3 := L3.size
  have T3 := Lib.hid (hsT2.out.stays (Stays.of_below L3))
  have b0' := nine y0
  have s1' := Pint.of_cells y3 1 _ rfl
  obtain ⟨W4, hW4⟩ : ∃ W4, W4 = w3.setCell ⟨w.heap.size, 3, none⟩ (.slice A5 l.length c5) := ⟨_, rfl⟩
  have z0 : W4.heap[w.heap.size]? = some (.cells #[.bool false, .int .i64 m.st, .int .i64 m.most, .slice A5 l.length c5, .slice A2 m.again.length c2, .bool false, .string word, .int .i64 frm, .bool done] 64 (0, 0)) := by rw [hW4]; exact Pint.set_row y0
  have fr4 : ∀ k, k ≠ w.heap.size → W4.heap[k]? = w3.heap[k]? := fun k hk => by rw [hW4]; exact Below.heap_setCell w3 ⟨w.heap.size, 3, none⟩ _ k hk
  have z1 := (fr4 (w.heap.size + 1) (by omega)).trans y1
  have z2 := (fr4 (w.heap.size + 2) (by omega)).trans y2
  have z3 := (fr4 (w.heap.size + 3) (by omega)).trans y3
  have St4 : Stays w3 W4 := by rw [hW4]; exact Stays.set y0 _
  have R4 := Lib.hid (R3.stays St4)
  have T4 := Lib.hid (T3.out.stays St4)
  have hz4 : W4.heap.size = w3.heap.size := by rw [hW4, World.size_setCell]
  have B4 := Lib.hid ((HB2.out.trans (L3.mono (by omega))).trans (show Below w.heap.size w3 W4 by rw [hW4]; exact (Below.refl _ w3).setCell (p := ⟨w.heap.size, 3, none⟩) (Nat.le_refl _) _))
  have HW4 := Lib.hid hW4
  have Z0 := Lib.hid z0
  have Z1 := Lib.hid z1
  have Z2 := Lib.hid z2
  have Z3 := Lib.hid z3
  obtain ⟨⟨p0, p1, p2, p3, p4, p5, p6, p7, p8⟩, pf⟩ := b0'
  clear y0 y1 y2 y3 z0 z1 z2 z3 fr4 hW4 R3 L3 St4 k0 k1
  go_wp2_with fail
  rw [← HW4.out]
  refine (more_calls W4 _ m.again m.st x.2 4096 T4.out htl (Nat.le_refl _)).mono ?_
  rintro e w5 ⟨v6, rfl, R5, F5, L5⟩
  rw [show m.again.length + 1 - 4096 = 0 by omega, List.drop_zero] at R5
  obtain ⟨A6, c6, rfl⟩ := R5.form
  have y0 := (L5.block _ (by omega)).trans Z0.out
  have y1 := (L5.block _ (by omega)).trans Z1.out
  have y2 := (L5.block _ (by omega)).trans Z2.out
  have y3 := (L5.block _ (by omega)).trans Z3.out
  clear p0 p1 p2 p3 p4 p5 p6 p7 p8 pf s1'
  obtain ⟨⟨p0, p1, p2, p3, p4, p5, p6, p7, p8⟩, pf⟩ := nine y0
  obtain ⟨⟨q0, q1, q2, q3, q4, q5, q6, q7, q8⟩, qf⟩ := nine y1
  have r0 := Pint.of_cells y2 0 _ rfl
  have r1 := Pint.of_cells y2 1 _ rfl
  have rf0 := Pint.no_ice y2 0
  have rf1 := Pint.no_ice y2 1
  have u0 := Pint.of_cells y3 0 _ rfl
  have u1 := Pint.of_cells y3 1 _ rfl
  have Y0 := Lib.hid y0
  have Y1 := Lib.hid y1
  have Y2 := Lib.hid y2
  have S5 := Lib.hid (R4.out.stays (Stays.of_below L5))
  have HR5 := Lib.hid R5
  have B5 := Lib.hid (B4.out.trans (L5.mono (by omega)))
  have hF3 : Hid (∀ k, (Value.slice A5 l.length c5).ownBlock = some k → w.heap.size + 4 ≤ k) := by rw [← hz2]; exact Lib.hid F3
  have hF5 : Hid (∀ k, (Value.slice A6 (m.again ++ [(m.st, x.2)]).length c6).ownBlock = some k → w.heap.size + 4 ≤ k) := Lib.hid (fun k e => Nat.le_trans (by omega) (F5 k e))
  clear y0 y1 y2 y3 R5 L5 F3 F5
  go_wp2_with fail
  go_region
  go_wp2_with fail
  obtain ⟨W6, hW6⟩ : ∃ W6, W6 = (w5.setCell ⟨w.heap.size, 4, none⟩ (.slice A6 (m.again.length + 1) c6)).setCell ⟨w.heap.size, 1, none⟩ (.int .i64 x.1) := ⟨_, rfl⟩
  rw [← hW6]
  have v1 := far_two (g := w.heap.size) (i := 4) (j := 1) (x := .slice A6 (m.again.length + 1) c6) (y := .int .i64 x.1) Y1.out (by omega)
  rw [← hW6] at v1
  have v2 := far_two (g := w.heap.size) (i := 4) (j := 1) (x := .slice A6 (m.again.length + 1) c6) (y := .int .i64 x.1) Y2.out (by omega)
  rw [← hW6] at v2
  have S6 : Stays w5 W6 := by rw [hW6]; exact (Stays.set Y0.out (n := 4) _).trans (Stays.set (Pint.set_row Y0.out) (n := 1) _)
  have B6 : Below w.heap.size w W6 := by rw [hW6]; exact (B5.out.setCell (p := ⟨w.heap.size, 4, none⟩) (Nat.le_refl _) _).setCell (p := ⟨w.heap.size, 1, none⟩) (Nat.le_refl _) _
  obtain ⟨W7, hW7, f1, f2, f3, f4⟩ := end_facts W6 w.heap.size _ _ _ _ _ _ _ _ _ _ _ v1 v2 (.bool false) (.int .i64 x.1) (.int .i64 m.most) (.slice A5 l.length c5) (.slice A6 (m.again.length + 1) c6) (.bool false) (.string word) (.int .i64 frm) (.bool done) (.int .i64 x.1) (.string x.2)
  rw [← hW7]
  clear hW7 hW6
  refine bodyPost_ret (ret_rst rfl _ _ (w.heap.size + 1) (w.heap.size + 1 + 1) _ _ _ _ _ _ _ _ _ _ _ rfl rfl f1 f2) rfl ?_
  have e1 : undoP m = { m with back := l, again := m.again ++ [(m.st, x.2)], st := x.1 } := by unfold undoP; rw [HO.out, HL.out]; simp
  have r5 := f4 _ _ (S5.out.stays S6) hF3.out
  have r6 := f4 _ _ (HR5.out.stays S6) hF5.out
  rw [List.length_append, List.length_singleton] at r6
  have g3 := hF3.out
  have g5 := hF5.out
  rw [List.length_append, List.length_singleton] at g5
  refine ⟨_, rfl, ⟨_, _, word, frm, done, by rw [e1]; unfold rv; rw [HO.out]; rfl, ?_⟩, ⟨fun k e => Nat.le_trans (by omega) (g3 k e), fun k e => Nat.le_trans (by omega) (g5 k e)⟩, B6.trans f3⟩
  rw [e1]
  exact ⟨r5, r6, (fun a b c e => by rw [show ({ m with back := l, again := m.again ++ [(m.st, x.2)], st := x.1 } : Pst Int).opn = m.opn from rfl, HO.out] at e; cases e), by rw [← e1]; exact ok_undo H.out.ok⟩

set_option maxRecDepth 100000 in
set_option maxHeartbeats 2000000 in
theorem ref_redo_open (w : World) (m : Pst Int) (A1 : Option Addr) (c1 : Nat) (A2 : Option Addr) (c2 : Nat) (word : ByteArray) (frm : Int) (done : Bool) (h : RP w m (.slice A1 m.back.length c1) (.slice A2 m.again.length c2) word frm done) (ho : m.opn.isSome = true) :
    Calls Try.prog 45 #[.agg #[.bool false, .int .i64 m.st, .int .i64 m.most, .slice A1 m.back.length c1, .slice A2 m.again.length c2, .bool true, .string word, .int .i64 frm, .bool done]] w fun e w' => e = .returned (.tuple #[.agg #[.bool false, .int .i64 m.st, .int .i64 m.most, .slice A1 m.back.length c1, .slice A2 m.again.length c2, .bool true, .string word, .int .i64 frm, .bool done], .agg #[.int .i64 0, .string ⟨#[]⟩], .int .i64 171]) ∧ RP w' (redoP m) (.slice A1 m.back.length c1) (.slice A2 m.again.length c2) word frm done ∧ Below w.heap.size w w' := by
  have H := Lib.hid h
  have HO := Lib.hid ho
  clear h ho
  go_enter Try.func45, Try.ntmps45
  go_wp2_with fail
  refine bodyPost_ret (ret_rst rfl _ _ (w.heap.size + 1) (w.heap.size + 2) _ _ _ _ _ _ _ _ _ _ _ rfl rfl (three_new w _ _ _).2.1 (three_new w _ _ _).1) rfl ?_
  refine ⟨rfl, ?_, below_three w _ _ _⟩
  have e1 : redoP m = m := by
    obtain ⟨x, hx⟩ := Option.isSome_iff_exists.1 HO.out
    unfold redoP; rw [hx]
  rw [e1]
  exact H.out.stays (Stays.of_below (below_three w _ _ _))

set_option maxRecDepth 100000 in
set_option maxHeartbeats 2000000 in
theorem ref_redo_empty (w : World) (m : Pst Int) (A1 : Option Addr) (c1 : Nat) (A2 : Option Addr) (c2 : Nat) (word : ByteArray) (frm : Int) (done : Bool) (h : RP w m (.slice A1 m.back.length c1) (.slice A2 m.again.length c2) word frm done) (ho : m.opn = none) (hl : m.again = []) :
    Calls Try.prog 45 #[.agg #[.bool false, .int .i64 m.st, .int .i64 m.most, .slice A1 m.back.length c1, .slice A2 0 c2, .bool false, .string word, .int .i64 frm, .bool done]] w fun e w' => e = .returned (.tuple #[.agg #[.bool false, .int .i64 m.st, .int .i64 m.most, .slice A1 m.back.length c1, .slice A2 0 c2, .bool false, .string word, .int .i64 frm, .bool done], .agg #[.int .i64 0, .string ⟨#[]⟩], .int .i64 170]) ∧ RP w' (redoP m) (.slice A1 m.back.length c1) (.slice A2 m.again.length c2) word frm done ∧ Below w.heap.size w w' := by
  have H := Lib.hid h
  have HO := Lib.hid ho
  have HL := Lib.hid hl
  clear h ho hl
  go_enter Try.func45, Try.ntmps45
  go_wp2_with fail
  refine bodyPost_ret (ret_rst rfl _ _ (w.heap.size + 1) (w.heap.size + 2) _ _ _ _ _ _ _ _ _ _ _ rfl rfl (three_new w _ _ _).2.1 (three_new w _ _ _).1) rfl ?_
  refine ⟨rfl, ?_, below_three w _ _ _⟩
  have e1 : redoP m = m := by unfold redoP; rw [HO.out, HL.out]; rfl
  rw [e1]
  exact H.out.stays (Stays.of_below (below_three w _ _ _))

set_option maxRecDepth 100000 in
set_option maxHeartbeats 2000000 in
theorem ref_redo_some (w : World) (m : Pst Int) (A1 : Option Addr) (c1 : Nat) (g off cF : Nat) (word : ByteArray) (frm : Int) (done : Bool) (l : List (Int × ByteArray)) (x : Int × ByteArray) (h : RP w m (.slice A1 m.back.length c1) (.slice (some ⟨g, off, none⟩) (l.length + 1) cF) word frm done) (ho : m.opn = none) (hl : m.again = l ++ [x]) :
    Calls Try.prog 45 #[.agg #[.bool false, .int .i64 m.st, .int .i64 m.most, .slice A1 m.back.length c1, .slice (some ⟨g, off, none⟩) (l.length + 1) cF, .bool false, .string word, .int .i64 frm, .bool done]] w fun e w' => ∃ v', e = .returned (.tuple #[v', .agg #[.int .i64 x.1, .string x.2], .int .i64 0]) ∧ RAt w' (redoP m) v' ∧ NewV w.heap.size v' ∧ Below w.heap.size w w' := by
  have H := Lib.hid h
  have HO := Lib.hid ho
  have HL := Lib.hid hl
  have hlen := congrArg List.length hl
  rw [List.length_append, List.length_singleton] at hlen
  have hlx : l.length + m.back.length < m.most := by have := h.ok.len; omega
  have hmx := h.ok.mx
  have hll : l.length ≤ 4096 := by omega
  have htl : m.back.length ≤ 4096 := by omega
  have hsF : SRow w (.slice (some ⟨g, off, none⟩) (l.length + 1) cF) (l ++ [x]) := by have := h.ra; rwa [hl] at this
  obtain ⟨g', off', cF', e', hcF, k0, k1⟩ := hsF.last
  cases e'
  have hgl : g < w.heap.size := World.block_lt_of_cell? w _ k0
  have hg0 : ¬ g = w.heap.size := by omega
  have hg1 : ¬ g = w.heap.size + 1 := by omega
  have hg2 : ¬ g = w.heap.size + 1 + 1 := by omega
  have hb0 : ((l.length : Int) + 1 == 0) = false := beq_eq_false_iff_ne.2 (by omega)
  have hcF2 : (l.length : Int) < cF := by omega
  obtain ⟨W2, hW2⟩ : ∃ W2, W2 = (((w.alloc (.cells #[.bool false, .int .i64 m.st, .int .i64 m.most, .slice A1 m.back.length c1, .slice (some ⟨g, off, none⟩) (l.length + 1) cF, .bool false, .string word, .int .i64 frm, .bool done] 64)).alloc (.cells #[.bool false, .int .i64 0, .int .i64 0, .slice none 0 0, .slice none 0 0, .bool false, .string ⟨#[]⟩, .int .i64 0, .bool false] 64)).alloc (.cells #[.int .i64 0, .string ⟨#[]⟩] 98)).alloc (.cells #[.int .i64 x.1, .string x.2] 98) := ⟨_, rfl⟩
  have B2 : Below w.heap.size w W2 := by rw [hW2]; exact (below_three w _ _ _).alloc (by simp <;> omega) _
  have hz2 : W2.heap.size = w.heap.size + 4 := by rw [hW2]; simp
  have x2 : Hid (W2.heap[w.heap.size + 3]? = some (.cells #[.int .i64 x.1, .string x.2] 98 (0, 0)) ∧ W2.heap[w.heap.size + 2]? = some (.cells #[.int .i64 0, .string ⟨#[]⟩] 98 (0, 0)) ∧ W2.heap[w.heap.size + 1]? = some (.cells #[.bool false, .int .i64 0, .int .i64 0, .slice none 0 0, .slice none 0 0, .bool false, .string ⟨#[]⟩, .int .i64 0, .bool false] 64 (0, 0)) ∧ W2.heap[w.heap.size]? = some (.cells #[.bool false, .int .i64 m.st, .int .i64 m.most, .slice A1 m.back.length c1, .slice (some ⟨g, off, none⟩) (l.length + 1) cF, .bool false, .string word, .int .i64 frm, .bool done] 64 (0, 0))) := by
    refine Lib.hid ?_
    rw [hW2]
    refine ⟨?_, (Below.heap_alloc _ _ _ (by simp)).trans (three_new w _ _ _).1, (Below.heap_alloc _ _ _ (by simp <;> omega)).trans (three_new w _ _ _).2.1, (Below.heap_alloc _ _ _ (by simp <;> omega)).trans (three_new w _ _ _).2.2⟩
    have := World.alloc_heap_new (((w.alloc (.cells #[.bool false, .int .i64 m.st, .int .i64 m.most, .slice A1 m.back.length c1, .slice (some ⟨g, off, none⟩) (l.length + 1) cF, .bool false, .string word, .int .i64 frm, .bool done] 64)).alloc (.cells #[.bool false, .int .i64 0, .int .i64 0, .slice none 0 0, .slice none 0 0, .bool false, .string ⟨#[]⟩, .int .i64 0, .bool false] 64)).alloc (.cells #[.int .i64 0, .string ⟨#[]⟩] 98)) (.cells #[.int .i64 x.1, .string x.2] 98)
    simpa using this
  have hsF2 := Lib.hid (hsF.stays (Stays.of_below B2))
  have hsT2 := Lib.hid ((h.rb).stays (Stays.of_below B2))
  have HB2 := Lib.hid B2
  have HW2 := Lib.hid hW2
  have k0 := ((below_three w (.cells #[.bool false, .int .i64 m.st, .int .i64 m.most, .slice A1 m.back.length c1, .slice (some ⟨g, off, none⟩) (l.length + 1) cF, .bool false, .string word, .int .i64 frm, .bool done] 64) (.cells #[.bool false, .int .i64 0, .int .i64 0, .slice none 0 0, .slice none 0 0, .bool false, .string ⟨#[]⟩, .int .i64 0, .bool false] 64) (.cells #[.int .i64 0, .string ⟨#[]⟩] 98)).cell (p := ⟨g, off + l.length * 2, none⟩) hgl).trans k0
  have k1 := ((below_three w (.cells #[.bool false, .int .i64 m.st, .int .i64 m.most, .slice A1 m.back.length c1, .slice (some ⟨g, off, none⟩) (l.length + 1) cF, .bool false, .string word, .int .i64 frm, .bool done] 64) (.cells #[.bool false, .int .i64 0, .int .i64 0, .slice none 0 0, .slice none 0 0, .bool false, .string ⟨#[]⟩, .int .i64 0, .bool false] 64) (.cells #[.int .i64 0, .string ⟨#[]⟩] 98)).cell (p := ⟨g, off + l.length * 2 + 1, none⟩) hgl).trans k1
  clear h ho hl hW2 B2 hsF hlen
  go_enter Try.func45, Try.ntmps45
  go_wp2_with fail
  rw [← HW2.out]
  refine (less_calls W2 g off cF l x hsF2.out hll hcF).mono ?_
  rintro e w3 ⟨v', rfl, R3, F3, L3⟩
  obtain ⟨A5, c5, rfl⟩ := R3.form
  have y0 := (L3.block _ (by omega)).trans x2.out.2.2.2
  have y1 := (L3.block _ (by omega)).trans x2.out.2.2.1
  have y2 := (L3.block _ (by omega)).trans x2.out.2.1
  have y3 := (L3.block _ (by omega)).trans x2.out.1
  have hz3 := L3.size
  have T3 := Lib.hid (hsT2.out.stays (Stays.of_below L3))
  have b0' := nine y0
  have s1' := Pint.of_cells y3 1 _ rfl
  obtain ⟨W4, hW4⟩ : ∃ W4, W4 = w3.setCell ⟨w.heap.size, 4, none⟩ (.slice A5 l.length c5) := ⟨_, rfl⟩
  have z0 : W4.heap[w.heap.size]? = some (.cells #[.bool false, .int .i64 m.st, .int .i64 m.most, .slice A1 m.back.length c1, .slice A5 l.length c5, .bool false, .string word, .int .i64 frm, .bool done] 64 (0, 0)) := by rw [hW4]; exact Pint.set_row y0
  have fr4 : ∀ k, k ≠ w.heap.size → W4.heap[k]? = w3.heap[k]? := fun k hk => by rw [hW4]; exact Below.heap_setCell w3 ⟨w.heap.size, 4, none⟩ _ k hk
  have z1 := (fr4 (w.heap.size + 1) (by omega)).trans y1
  have z2 := (fr4 (w.heap.size + 2) (by omega)).trans y2
  have z3 := (fr4 (w.heap.size + 3) (by omega)).trans y3
  have St4 : Stays w3 W4 := by rw [hW4]; exact Stays.set y0 _
  have R4 := Lib.hid (R3.stays St4)
  have T4 := Lib.hid (T3.out.stays St4)
  have hz4 : W4.heap.size = w3.heap.size := by rw [hW4, World.size_setCell]
  have B4 := Lib.hid ((HB2.out.trans (L3.mono (by omega))).trans (show Below w.heap.size w3 W4 by rw [hW4]; exact (Below.refl _ w3).setCell (p := ⟨w.heap.size, 4, none⟩) (Nat.le_refl _) _))
  have HW4 := Lib.hid hW4
  have Z0 := Lib.hid z0
  have Z1 := Lib.hid z1
  have Z2 := Lib.hid z2
  have Z3 := Lib.hid z3
  obtain ⟨⟨p0, p1, p2, p3, p4, p5, p6, p7, p8⟩, pf⟩ := b0'
  clear y0 y1 y2 y3 z0 z1 z2 z3 fr4 hW4 R3 L3 St4 k0 k1
  go_wp2_with fail
  rw [← HW4.out]
  refine (more_calls W4 _ m.back m.st x.2 4096 T4.out htl (Nat.le_refl _)).mono ?_
  rintro e w5 ⟨v6, rfl, R5, F5, L5⟩
  rw [show m.back.length + 1 - 4096 = 0 by omega, List.drop_zero] at R5
  obtain ⟨A6, c6, rfl⟩ := R5.form
  have y0 := (L5.block _ (by omega)).trans Z0.out
  have y1 := (L5.block _ (by omega)).trans Z1.out
  have y2 := (L5.block _ (by omega)).trans Z2.out
  have y3 := (L5.block _ (by omega)).trans Z3.out
  clear p0 p1 p2 p3 p4 p5 p6 p7 p8 pf s1'
  obtain ⟨⟨p0, p1, p2, p3, p4, p5, p6, p7, p8⟩, pf⟩ := nine y0
  obtain ⟨⟨q0, q1, q2, q3, q4, q5, q6, q7, q8⟩, qf⟩ := nine y1
  have r0 := Pint.of_cells y2 0 _ rfl
  have r1 := Pint.of_cells y2 1 _ rfl
  have rf0 := Pint.no_ice y2 0
  have rf1 := Pint.no_ice y2 1
  have u0 := Pint.of_cells y3 0 _ rfl
  have u1 := Pint.of_cells y3 1 _ rfl
  have Y0 := Lib.hid y0
  have Y1 := Lib.hid y1
  have Y2 := Lib.hid y2
  have S5 := Lib.hid (R4.out.stays (Stays.of_below L5))
  have HR5 := Lib.hid R5
  have B5 := Lib.hid (B4.out.trans (L5.mono (by omega)))
  have hF3 : Hid (∀ k, (Value.slice A5 l.length c5).ownBlock = some k → w.heap.size + 4 ≤ k) := by rw [← hz2]; exact Lib.hid F3
  have hF5 : Hid (∀ k, (Value.slice A6 (m.back ++ [(m.st, x.2)]).length c6).ownBlock = some k → w.heap.size + 4 ≤ k) := Lib.hid (fun k e => Nat.le_trans (by omega) (F5 k e))
  clear y0 y1 y2 y3 R5 L5 F3 F5
  go_wp2_with fail
  go_region
  go_wp2_with fail
  obtain ⟨W6, hW6⟩ : ∃ W6, W6 = (w5.setCell ⟨w.heap.size, 3, none⟩ (.slice A6 (m.back.length + 1) c6)).setCell ⟨w.heap.size, 1, none⟩ (.int .i64 x.1) := ⟨_, rfl⟩
  rw [← hW6]
  have v1 := far_two (g := w.heap.size) (i := 3) (j := 1) (x := .slice A6 (m.back.length + 1) c6) (y := .int .i64 x.1) Y1.out (by omega)
  rw [← hW6] at v1
  have v2 := far_two (g := w.heap.size) (i := 3) (j := 1) (x := .slice A6 (m.back.length + 1) c6) (y := .int .i64 x.1) Y2.out (by omega)
  rw [← hW6] at v2
  have S6 : Stays w5 W6 := by rw [hW6]; exact (Stays.set Y0.out (n := 3) _).trans (Stays.set (Pint.set_row Y0.out) (n := 1) _)
  have B6 : Below w.heap.size w W6 := by rw [hW6]; exact (B5.out.setCell (p := ⟨w.heap.size, 3, none⟩) (Nat.le_refl _) _).setCell (p := ⟨w.heap.size, 1, none⟩) (Nat.le_refl _) _
  obtain ⟨W7, hW7, f1, f2, f3, f4⟩ := end_facts W6 w.heap.size _ _ _ _ _ _ _ _ _ _ _ v1 v2 (.bool false) (.int .i64 x.1) (.int .i64 m.most) (.slice A6 (m.back.length + 1) c6) (.slice A5 l.length c5) (.bool false) (.string word) (.int .i64 frm) (.bool done) (.int .i64 x.1) (.string x.2)
  rw [← hW7]
  clear hW7 hW6
  refine bodyPost_ret (ret_rst rfl _ _ (w.heap.size + 1) (w.heap.size + 1 + 1) _ _ _ _ _ _ _ _ _ _ _ rfl rfl f1 f2) rfl ?_
  have e1 : redoP m = { m with back := m.back ++ [(m.st, x.2)], again := l, st := x.1 } := by unfold redoP; rw [HO.out, HL.out]; simp
  have r5 := f4 _ _ (S5.out.stays S6) hF3.out
  have r6 := f4 _ _ (HR5.out.stays S6) hF5.out
  rw [List.length_append, List.length_singleton] at r6
  have g3 := hF3.out
  have g5 := hF5.out
  rw [List.length_append, List.length_singleton] at g5
  refine ⟨_, rfl, ⟨_, _, word, frm, done, by rw [e1]; unfold rv; rw [HO.out]; rfl, ?_⟩, ⟨fun k e => Nat.le_trans (by omega) (g5 k e), fun k e => Nat.le_trans (by omega) (g3 k e)⟩, B6.trans f3⟩
  rw [e1]
  exact ⟨r6, r5, (fun a b c e => by rw [show ({ m with back := m.back ++ [(m.st, x.2)], again := l, st := x.1 } : Pst Int).opn = m.opn from rfl, HO.out] at e; cases e), by rw [← e1]; exact ok_redo H.out.ok⟩
end Go.Proofs.Ytihfkoomimohbaa
