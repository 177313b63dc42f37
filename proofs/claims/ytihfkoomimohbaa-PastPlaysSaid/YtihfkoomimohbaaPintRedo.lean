/- Past[int].over, as Redo calls it. -/
import Derived.Test.YtihfkoomimohbaaPintKeep
namespace Go.Proofs.Ytihfkoomimohbaa.Pint
open Go.RowKit Past17

theorem over_redo_none (w : World) (base b : Nat) (m : Pst Int) (vb va vo : Value) (h : PAt w base b m vb va vo) (hl : m.again = []) :
    Calls Try.prog 39 #[.pointer (some ⟨b, 0, none⟩), .pointer (some ⟨b, 3, none⟩), .pointer (some ⟨b, 2, none⟩)] w fun e w' => e = .returned (.tuple #[.int .i64 (0 : Int), .string ⟨#[]⟩, .int .i64 170]) ∧ w' = w := by
  have hf : ∃ A c, va = .slice A 0 c := by
    have := h.ra.2
    rw [hl] at this
    rcases this with ⟨e, _⟩ | ⟨g, cap, cur, e, _⟩
    · exact ⟨none, 0, e⟩
    · exact ⟨some ⟨g, 0, none⟩, cap, e⟩
  obtain ⟨A, c, rfl⟩ := hf
  have cF := of_cells h.blk 3 _ rfl
  clear h
  go_enter Try.func39, Try.ntmps39
  go_wp2_with fail
  refine bodyPost_ret (v := .tuple #[.int .i64 (0 : Int), .string ⟨#[]⟩, .int .i64 170]) (by simp [results, Try.results39, go_sem]) rfl ⟨rfl, rfl⟩

set_option maxRecDepth 100000 in
set_option maxHeartbeats 2000000 in
theorem over_redo_some (w : World) (base b : Nat) (m : Pst Int) (vb va vo : Value) (h : PAt w base b m vb va vo) (ho : m.opn = none) (l : List (Int × ByteArray)) (x : Int × ByteArray) (hl : m.again = l ++ [x]) :
    Calls Try.prog 39 #[.pointer (some ⟨b, 0, none⟩), .pointer (some ⟨b, 3, none⟩), .pointer (some ⟨b, 2, none⟩)] w fun e w' => e = .returned (.tuple #[.int .i64 x.1, .string x.2, .int .i64 0]) ∧ (∃ vb' va', PAt w' base b { m with again := l, back := m.back ++ [(m.st, x.2)], st := x.1 } vb' va' vo) ∧ Spares w w' ∧ Below base w w' := by
  obtain ⟨i0, hi0, hi1, hi2, hi3⟩ := info_parts infoTurn
  have hlen := h.ok.len
  have hmx := h.ok.mx
  have hlt := h.lt
  have hbs : base ≤ w.heap.size := by have := h.hb; omega
  have hrF := h.ra
  rw [hl, List.length_append, List.length_singleton] at hrF hlen
  obtain ⟨g, cap, rfl, hgb, hgl⟩ := hrF.form (by omega)
  have hcap : l.length + 1 ≤ cap := by
    rcases hrF.2 with ⟨e, _⟩ | ⟨g', cap', cur, e, _, _, hle, _⟩
    · cases e
    · cases e; exact hle
  have hgne : g ≠ b := fun e => by subst e; exact h.na rfl
  have xc : ∀ j u, [.int .i64 x.1, .string x.2][j]? = some u → w.cell? ⟨g, l.length * 2 + j, none⟩ = some u := fun j u hj => by
    have h1 := hrF.cells (g := g) rfl (l.length * 2 + j) u (by rw [turns_append, List.getElem?_append_right (by rw [turns_length]; omega), turns_length, Nat.add_sub_cancel_left]; exact hj)
    rwa [add_none, Nat.zero_add] at h1
  have x0c : w.cell? ⟨g, l.length * 2, none⟩ = some (.int .i64 x.1) := xc 0 _ rfl
  have x1c : w.cell? ⟨g, l.length * 2 + 1, none⟩ = some (.string x.2) := xc 1 _ rfl
  have b0 := h.blk
  have cF := of_cells b0 3 (.slice (some ⟨g, 0, none⟩) (l.length + 1) cap) rfl
  have zF := no_ice b0 3
  obtain ⟨W0, hW0⟩ : ∃ W0, W0 = w.setCell ⟨b, 3, none⟩ (.slice (some ⟨g, 0, none⟩) l.length cap) := ⟨_, rfl⟩
  have M0 : Moves w W0 b [] := by rw [hW0]; exact (Moves.refl w b _).set _
  have b00 : W0.heap[b]? = some (.cells #[.int .i64 m.st, .int .i64 m.most, vb, (.slice (some ⟨g, 0, none⟩) l.length cap), vo] 54 (0, 0)) := by rw [hW0]; exact set_row b0
  have hz0 : W0.heap.size = w.heap.size := by rw [hW0, World.size_setCell]
  obtain ⟨W1, hW1⟩ : ∃ W1, W1 = W0.alloc (.cells #[.int .i64 x.1, .string x.2] 78) := ⟨_, rfl⟩
  have M1 : Moves w W1 b [] := by rw [hW1]; exact M0.alloc _
  have x1 : W1.heap[w.heap.size]? = some (.cells #[.int .i64 x.1, .string x.2] 78 (0, 0)) := by rw [hW1, ← hz0]; exact World.alloc_heap_new W0 _
  have b1 : W1.heap[b]? = some (.cells #[.int .i64 m.st, .int .i64 m.most, vb, (.slice (some ⟨g, 0, none⟩) l.length cap), vo] 54 (0, 0)) := by rw [hW1]; exact (Below.heap_alloc W0 _ b (by omega)).trans b00
  have cT := of_cells b1 2 vb rfl
  have cs := of_cells b1 0 (.int .i64 m.st) rfl
  have cw : W1.cell? ⟨w.heap.size, 1, none⟩ = some (.string x.2) := of_cells x1 1 _ rfl
  have hz1 : W1.heap.size = w.heap.size + 1 := by rw [hW1]; simp [hz0]
  have rT1 : W1.ownsRow base 78 2 vb m.back.length (m.back.flatMap turnC) := M1.row h.rb (fun e => h.nb e.symm) (fun u hu => by cases hu)
  have H := Lib.hid h
  have RT1 := Lib.hid rT1
  have B1 := Lib.hid b1
  have X1 := Lib.hid x1
  have MM1 := Lib.hid M1
  have HW0 := Lib.hid hW0
  have HW1 := Lib.hid hW1
  have HL := Lib.hid hl
  clear h hl hrF b0 M0 b00 M1 x1 b1 rT1 hW0 hW1 xc hz0
  go_enter Try.func39, Try.ntmps39
  go_wp2_with fail
  rw [← HW0.out, ← HW1.out]
  clear x0c x1c cF zF
  refine Code.wp_mono (Q := fun e a W => match e with | .normal => (∃ z34 z35 z36 z37 z38 z39 z40 z41 z42 z43 z44 z45 z46 z47, a = { tmps := #[.pointer (some ⟨b, 0, none⟩), .pointer (some ⟨b, 3, none⟩), .pointer (some ⟨b, 2, none⟩), undef, undef, undef, .int .i64 0, .string ⟨#[]⟩, .int .i64 0, .int .i64 (l.length + 1), undef, .pointer (some ⟨w.heap.size, 0, none⟩), .pointer (some ⟨b, 3, none⟩), .pointer (some ⟨b, 3, none⟩), .slice (some ⟨g, 0, none⟩) (l.length + 1) cap, .int .i64 (l.length + 1), .int .i64 (l.length + 1), .bool ((l.length : Int) + 1 == 0), undef, .pointer (some ⟨b, 3, none⟩), .pointer (some ⟨b, 3, none⟩), .slice (some ⟨g, 0, none⟩) (l.length + 1) cap, .int .i64 (l.length + 1), .int .i64 l.length, .pointer (some ⟨g, l.length * 2, none⟩), .agg #[.int .i64 x.1, .string x.2], .pointer (some ⟨b, 3, none⟩), .pointer (some ⟨b, 3, none⟩), .pointer (some ⟨b, 3, none⟩), .slice (some ⟨g, 0, none⟩) (l.length + 1) cap, .int .i64 (l.length + 1), .int .i64 l.length, .slice (some ⟨g, 0, none⟩) l.length cap, .pointer (some ⟨b, 3, none⟩), z34, z35, z36, z37, z38, z39, z40, z41, z42, z43, z44, z45, z46, z47, undef, undef, undef, undef, undef, undef, undef, undef, undef], defers := [] }) ∧ ∃ g2 cap2, Moves w W b [vb] ∧ W.heap[b]? = some (.cells #[.int .i64 m.st, .int .i64 m.most, (.slice (some ⟨g2, 0, none⟩) (m.back.length + 1) cap2), (.slice (some ⟨g, 0, none⟩) l.length cap), vo] 54 (0, 0)) ∧ W.heap[w.heap.size]? = some (.cells #[.int .i64 x.1, .string x.2] 78 (0, 0)) ∧ W.ownsRow base 78 2 (.slice (some ⟨g2, 0, none⟩) (m.back.length + 1) cap2) (m.back.length + 1) ((m.back ++ [(m.st, x.2)]).flatMap turnC) ∧ (vb.ownBlock = some g2 ∨ w.heap.size < g2) | _ => False) ?rest ?region
  case region =>
    go_region_law (refine step_append_lies _ rfl (.tmp 37) (.tmp 45) 51 rfl base 78 i0 (.agg #[.int .i64 0, .string ⟨#[]⟩]) 2 24 Try.underlying51 hi0 hi1 hi2 hi3 rfl (by decide) vb m.back.length (m.back.flatMap turnC) (by simp [Act.eval]) (RT1.out.drew.alloc _) ⟨W1.heap.size, 0, none⟩ 1 1 [.int .i64 m.st, .string x.2] (by simp [Act.eval]) rfl (World.news_of_block (World.alloc_heap_new W1.drew _)) (by simp [Value.oneCell']) (by decide) (by unfold maxLen; omega) (by omega) (by simp; omega) _ rfl ?_; intro g2 cap2 w2 hown hgrow hat hlt2; have hz2 : (W1.drew.alloc (.cells #[.int .i64 m.st, .string x.2] 78)).heap.size = W1.heap.size + 1 := (by simp); have b2 : w2.heap[b]? = some (.cells #[.int .i64 m.st, .int .i64 m.most, vb, (.slice (some ⟨g, 0, none⟩) l.length cap), vo] 54 (0, 0)) := ((hgrow.block b (Nat.lt_of_lt_of_le hlt (by simp; omega)) (row_ne B1.out (by decide) RT1.out)).trans (Below.heap_alloc W1.drew _ b (Nat.lt_of_lt_of_le hlt (Nat.le_trans (Nat.le_succ _) (Nat.le_of_eq hz1.symm))))).trans B1.out; have k2 : w2.cell? ⟨b, 2, none⟩ = some vb := of_cells b2 2 vb rfl; have f2 := no_ice b2 2)
    all_goals
      have g2b : g2 ≠ b := by
        rcases hat with h1 | h1
        · intro e; subst e; exact H.out.nb h1.symm
        · intro e; subst e; rw [h1] at hlt; simp at hlt; omega
      have M2 : Moves w w2 b [vb] := by
        refine Moves.grown ?_ hgrow (fun k e => .inr (.inr ⟨vb, by simp, e⟩))
        have M1' := MM1.out.wide (rows' := [vb]) (by simp)
        first | exact (M1'.alloc _).drew | exact M1'.drew.alloc _
      have x2 : w2.heap[w.heap.size]? = some (.cells #[.int .i64 x.1, .string x.2] 78 (0, 0)) := by
        refine ((hgrow.block _ (by simp; omega) (fun e => ?_)).trans (Below.heap_alloc W1 _ _ (by omega))).trans X1.out
        have := (Array.getElem?_eq_some_iff.1 (ownsRow_type H.out.rb _ e.symm).2.choose_spec).1
        omega
      refine ⟨⟨_, _, _, _, _, _, _, _, _, _, _, _, _, _, rfl⟩, g2, cap2, M2.set _, set_row b2, (Below.heap_setCell w2 ⟨b, 2, none⟩ _ _ (show w.heap.size ≠ b by omega)).trans x2, ?_, hat.imp id (fun e => by rw [e]; simp; omega)⟩
      rw [turns_append]
      exact ownsRow_setCell_other hown (fun e => g2b (by cases e; rfl)) _
  case rest =>
    intro e a W hq
    cases e with
    | normal =>
      rename_i a0
      obtain ⟨⟨z34, z35, z36, z37, z38, z39, z40, z41, z42, z43, z44, z45, z46, z47, rfl⟩, g2, cap2, M3, b3, x3, r3, hat⟩ := hq
      have hF : w.ownsRow base 78 2 (.slice (some ⟨g, 0, none⟩) (l.length + 1) cap) (l.length + 1) ((l ++ [x]).flatMap turnC) := by
        have := H.out.ra
        rw [HL.out, List.length_append, List.length_singleton] at this
        exact this
      have rF3 : W.ownsRow base 78 2 (.slice (some ⟨g, 0, none⟩) l.length cap) l.length (l.flatMap turnC) := M3.row (own_less hF) (fun e => hgne (by cases e; rfl)) (fun u hu => .inr (by rw [List.mem_singleton.1 hu]; exact fun e => H.out.dis g e.symm rfl))
      have hok : Ok { m with again := l, back := m.back ++ [(m.st, x.2)], st := x.1 } := by
        have := ok_redo H.out.ok
        simpa [redoP, ho, HL.out] using this
      have y0 := of_cells x3 0 _ rfl
      have y1 := of_cells x3 1 _ rfl
      have s3 := of_cells b3 0 _ rfl
      have f3 := no_ice b3 0
      
      obtain ⟨W4, hW4⟩ : ∃ W4, W4 = W.setCell ⟨b, 0, none⟩ (.int .i64 x.1) := ⟨_, rfl⟩
      have M4 : Moves w W4 b [vb] := by rw [hW4]; exact M3.set _
      have b4 : W4.heap[b]? = some (.cells #[.int .i64 x.1, .int .i64 m.most, (.slice (some ⟨g2, 0, none⟩) (m.back.length + 1) cap2), (.slice (some ⟨g, 0, none⟩) l.length cap), vo] 54 (0, 0)) := by rw [hW4]; exact set_row b3
      have x4 : W4.heap[w.heap.size]? = some (.cells #[.int .i64 x.1, .string x.2] 78 (0, 0)) := by rw [hW4]; exact (Below.heap_setCell W ⟨b, 0, none⟩ _ _ (show w.heap.size ≠ b by omega)).trans x3
      have rF4 : W4.ownsRow base 78 2 (.slice (some ⟨g, 0, none⟩) l.length cap) l.length (l.flatMap turnC) := by rw [hW4]; exact ownsRow_setCell_other rF3 (fun e => hgne (by cases e; rfl)) _
      have rT4 : W4.ownsRow base 78 2 (.slice (some ⟨g2, 0, none⟩) (m.back.length + 1) cap2) (m.back.length + 1) ((m.back ++ [(m.st, x.2)]).flatMap turnC) := by
        have g2b : g2 ≠ b := by
          rcases hat with h1 | h1
          · intro e; subst e; exact H.out.nb h1.symm
          · omega
        rw [hW4]; exact ownsRow_setCell_other r3 (fun e => g2b (by cases e; rfl)) _
      have z0 := of_cells x4 0 _ rfl
      have z1 := of_cells x4 1 _ rfl
      have M4 := Lib.hid M4
      have b4 := Lib.hid b4
      have rF4 := Lib.hid rF4
      have rT4 := Lib.hid rT4
      have hat := Lib.hid hat
      have hok := Lib.hid hok
      have hW4 := Lib.hid hW4
      clear M3 b3 x3 r3 hF rF3 x4
      refine a0 _ _ ?_
      go_wp2_with fail
      rw [← hW4.out]
      go_quiet (fail)
      have M5 : Moves w (W4.drewN nq) b [vb] := ⟨M4.out.os, M4.out.tape, M4.out.output, M4.out.size, M4.out.same⟩
      have fT : ∀ k, (Value.slice (some ⟨g2, 0, none⟩) (m.back.length + 1) cap2).ownBlock = some k → vb.ownBlock = some k ∨ w.heap.size ≤ k := fun k e => by cases e; exact hat.out.imp id Nat.le_of_lt
      have ra5 : (W4.drewN nq).ownsRow base 78 2 (.slice (some ⟨g2, 0, none⟩) (m.back.length + 1) cap2) (m.back ++ [(m.st, x.2)]).length ((m.back ++ [(m.st, x.2)]).flatMap turnC) := by
        rw [List.length_append, List.length_singleton]; exact rT4.out
      clear y0 y1 s3 f3 z0 z1
      go_wp2_with fail
      refine bodyPost_ret (v := .tuple #[.int .i64 x.1, .string x.2, .int .i64 0]) (by simp [results, Try.results39, go_sem]) rfl ⟨rfl, ⟨_, _, H.out.turn (m' := { m with again := l, back := m.back ++ [(m.st, x.2)], st := x.1 }) b4.out ra5 rF4.out fT (fun k e => .inl e) (.inl fun k e => e) (show OpAt _ base m.opn vo from Moves.op (M5.wide (rows' := [vb, (.slice (some ⟨g, 0, none⟩) (l.length + 1) cap)]) (by simp)) H.out) hok.out⟩, Moves.spares (M5.wide (rows' := [vb, (.slice (some ⟨g, 0, none⟩) (l.length + 1) cap)]) (by simp)) H.out, Moves.belowB (M5.wide (rows' := [vb, (.slice (some ⟨g, 0, none⟩) (l.length + 1) cap)]) (by simp)) H.out⟩
    | _ => exact hq.elim
end Go.Proofs.Ytihfkoomimohbaa.Pint
