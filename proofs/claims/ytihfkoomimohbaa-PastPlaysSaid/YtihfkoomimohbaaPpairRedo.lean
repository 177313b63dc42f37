/- Past[galley/galleylaw17.Pair].over, as Redo calls it. -/
import Derived.Test.YtihfkoomimohbaaPpairKeep
namespace Go.Proofs.Ytihfkoomimohbaa.Ppair
open Go.RowKit Past17

theorem over_redo_none (w : World) (base b : Nat) (m : Pst (Int × ByteArray)) (vb va vo : Value) (h : PAt w base b m vb va vo) (hl : m.again = []) :
    Calls Try.prog 60 #[.pointer (some ⟨b, 0, none⟩), .pointer (some ⟨b, 4, none⟩), .pointer (some ⟨b, 3, none⟩)] w fun e w' => e = .returned (.tuple #[.agg #[.int .i64 0, .string ⟨#[]⟩], .string ⟨#[]⟩, .int .i64 170]) ∧ Below w.heap.size w w' := by
  have hf : ∃ A c, va = .slice A 0 c := by
    have := h.ra.2
    rw [hl] at this
    rcases this with ⟨e, _⟩ | ⟨g, cap, cur, e, _⟩
    · exact ⟨none, 0, e⟩
    · exact ⟨some ⟨g, 0, none⟩, cap, e⟩
  obtain ⟨A, c, rfl⟩ := hf
  have cF := of_cells h.blk 4 _ rfl
  have hlt := h.lt
  have hbw : ¬ b = w.heap.size := by omega
  clear h
  go_enter Try.func60, Try.ntmps60
  go_wp2_with fail
  refine bodyPost_ret (ret_ctt rfl _ _ w.heap.size (.int .i64 0) (.string ⟨#[]⟩) rfl ?_) rfl ?_
  · exact (Below.heap_alloc _ _ _ (by simp)).trans (alloc_new w _)
  · refine ⟨rfl, ?_⟩
    exact ((Below.refl _ w).alloc (Nat.le_refl _) _).alloc (by simp) _

set_option maxRecDepth 100000 in
set_option maxHeartbeats 2000000 in
theorem over_redo_some (w : World) (base b : Nat) (m : Pst (Int × ByteArray)) (vb va vo : Value) (h : PAt w base b m vb va vo) (ho : m.opn = none) (l : List ((Int × ByteArray) × ByteArray)) (x : (Int × ByteArray) × ByteArray) (hl : m.again = l ++ [x]) :
    Calls Try.prog 60 #[.pointer (some ⟨b, 0, none⟩), .pointer (some ⟨b, 4, none⟩), .pointer (some ⟨b, 3, none⟩)] w fun e w' => e = .returned (.tuple #[.agg #[.int .i64 x.1.1, .string x.1.2], .string x.2, .int .i64 0]) ∧ (∃ vb' va', PAt w' base b { m with again := l, back := m.back ++ [(m.st, x.2)], st := x.1 } vb' va' vo) ∧ Spares w w' ∧ Below base w w' := by
  obtain ⟨i0, hi0, hi1, hi2, hi3⟩ := info_parts infoTurn
  have hlen := h.ok.len
  have hmx := h.ok.mx
  have hlt := h.lt
  have hbs : base ≤ w.heap.size := by have := h.hb; omega
  have hrF := h.ra
  rw [hl, List.length_append, List.length_singleton] at hrF hlen
  obtain ⟨g, cap, rfl, hgb, hgl⟩ := hrF.form (by omega)
  have hcap : l.length + 1 ≤ cap := by
    rcases hrF.2 with ⟨e, _⟩ | ⟨g', cap', cur, e, _, _, hle, _⟩
    · cases e
    · cases e; exact hle
  have hgne : g ≠ b := fun e => by subst e; exact h.na rfl
  have xc : ∀ j u, [.int .i64 x.1.1, .string x.1.2, .string x.2][j]? = some u → w.cell? ⟨g, l.length * 3 + j, none⟩ = some u := fun j u hj => by
    have h1 := hrF.cells (g := g) rfl (l.length * 3 + j) u (by rw [turns_append, List.getElem?_append_right (by rw [turns_length]; omega), turns_length, Nat.add_sub_cancel_left]; exact hj)
    rwa [add_none, Nat.zero_add] at h1
  have x0c : w.cell? ⟨g, l.length * 3, none⟩ = some (.int .i64 x.1.1) := xc 0 _ rfl
  have x1c : w.cell? ⟨g, l.length * 3 + 1, none⟩ = some (.string x.1.2) := xc 1 _ rfl
  have x2c : w.cell? ⟨g, l.length * 3 + 2, none⟩ = some (.string x.2) := xc 2 _ rfl
  have b0 := h.blk
  have cF := of_cells b0 4 (.slice (some ⟨g, 0, none⟩) (l.length + 1) cap) rfl
  have zF := no_ice b0 4
  obtain ⟨W0, hW0⟩ : ∃ W0, W0 = w.setCell ⟨b, 4, none⟩ (.slice (some ⟨g, 0, none⟩) l.length cap) := ⟨_, rfl⟩
  have M0 : Moves w W0 b [] := by rw [hW0]; exact (Moves.refl w b _).set _
  have b00 : W0.heap[b]? = some (.cells #[.int .i64 m.st.1, .string m.st.2, .int .i64 m.most, vb, (.slice (some ⟨g, 0, none⟩) l.length cap), vo] 106 (0, 0)) := by rw [hW0]; exact set_row b0
  have hz0 : W0.heap.size = w.heap.size := by rw [hW0, World.size_setCell]
  obtain ⟨Wr, hWr⟩ : ∃ Wr, Wr = W0.alloc (.cells #[.int .i64 0, .string ⟨#[]⟩] 32) := ⟨_, rfl⟩
  have Mr : Moves w Wr b [] := by rw [hWr]; exact M0.alloc _
  have hzr : Wr.heap.size = w.heap.size + 1 := by rw [hWr]; simp [hz0]
  have xr : Wr.heap[w.heap.size]? = some (.cells #[.int .i64 0, .string ⟨#[]⟩] 32 (0, 0)) := by rw [hWr, ← hz0]; exact alloc_new W0 _
  have br : Wr.heap[b]? = some (.cells #[.int .i64 m.st.1, .string m.st.2, .int .i64 m.most, vb, (.slice (some ⟨g, 0, none⟩) l.length cap), vo] 106 (0, 0)) := by rw [hWr]; exact (Below.heap_alloc W0 _ b (by omega)).trans b00
  obtain ⟨W1, hW1⟩ : ∃ W1, W1 = Wr.alloc (.cells #[.int .i64 x.1.1, .string x.1.2, .string x.2] 114) := ⟨_, rfl⟩
  have M1 : Moves w W1 b [] := by rw [hW1]; exact Mr.alloc _
  have x1 : W1.heap[w.heap.size + 1]? = some (.cells #[.int .i64 x.1.1, .string x.1.2, .string x.2] 114 (0, 0)) := by rw [hW1, ← hzr]; exact alloc_new Wr _
  have r1 : W1.heap[w.heap.size]? = some (.cells #[.int .i64 0, .string ⟨#[]⟩] 32 (0, 0)) := by rw [hW1]; exact (Below.heap_alloc Wr _ _ (by omega)).trans xr
  have b1 : W1.heap[b]? = some (.cells #[.int .i64 m.st.1, .string m.st.2, .int .i64 m.most, vb, (.slice (some ⟨g, 0, none⟩) l.length cap), vo] 106 (0, 0)) := by rw [hW1]; exact (Below.heap_alloc Wr _ b (by omega)).trans br
  have cT := of_cells b1 3 vb rfl
  have cs := of_cells b1 0 (.int .i64 m.st.1) rfl
  have cs2 := of_cells b1 1 (.string m.st.2) rfl
  have cw : W1.cell? ⟨w.heap.size + 1, 2, none⟩ = some (.string x.2) := of_cells x1 2 _ rfl
  have hz1 : W1.heap.size = w.heap.size + 2 := by rw [hW1]; simp [hzr]
  have hbl2 : b < w.heap.size + 2 := by omega
  have hbn2 : ¬ b = w.heap.size + 2 := by omega
  have hbn2' : ¬ w.heap.size + 2 = b := by omega
  have hbn1 : ¬ w.heap.size + 1 = w.heap.size + 2 := by omega
  have rT1 : W1.ownsRow base 114 3 vb m.back.length (m.back.flatMap turnC) := M1.row h.rb (fun e => h.nb e.symm) (fun u hu => by cases hu)
  have H := Lib.hid h
  have RT1 := Lib.hid rT1
  have B1 := Lib.hid b1
  have X1 := Lib.hid x1
  have MM1 := Lib.hid M1
  have HW0 := Lib.hid hW0
  have HWr := Lib.hid hWr
  have R1 := Lib.hid r1
  have HW1 := Lib.hid hW1
  have HL := Lib.hid hl
  clear h hl hrF b0 M0 b00 M1 x1 b1 rT1 hW0 hW1 xc hz0 hWr Mr hzr xr br r1
  go_enter Try.func60, Try.ntmps60
  go_wp2_with fail
  rw [← HW0.out, ← HWr.out, ← HW1.out]
  clear x0c x1c x2c cF zF
  refine Code.wp_mono (Q := fun e a W => match e with | .normal => (∃ z34 z35 z36 z37 z38 z39 z40 z41 z42 z43 z44 z45 z46 z47, a = { tmps := #[.pointer (some ⟨b, 0, none⟩), .pointer (some ⟨b, 4, none⟩), .pointer (some ⟨b, 3, none⟩), undef, undef, undef, .pointer (some ⟨w.heap.size, 0, none⟩), .string ⟨#[]⟩, .int .i64 0, .int .i64 (l.length + 1), undef, .pointer (some ⟨w.heap.size + 1, 0, none⟩), .pointer (some ⟨b, 4, none⟩), .pointer (some ⟨b, 4, none⟩), .slice (some ⟨g, 0, none⟩) (l.length + 1) cap, .int .i64 (l.length + 1), .int .i64 (l.length + 1), .bool ((l.length : Int) + 1 == 0), undef, .pointer (some ⟨b, 4, none⟩), .pointer (some ⟨b, 4, none⟩), .slice (some ⟨g, 0, none⟩) (l.length + 1) cap, .int .i64 (l.length + 1), .int .i64 l.length, .pointer (some ⟨g, l.length * 3, none⟩), .agg #[.int .i64 x.1.1, .string x.1.2, .string x.2], .pointer (some ⟨b, 4, none⟩), .pointer (some ⟨b, 4, none⟩), .pointer (some ⟨b, 4, none⟩), .slice (some ⟨g, 0, none⟩) (l.length + 1) cap, .int .i64 (l.length + 1), .int .i64 l.length, .slice (some ⟨g, 0, none⟩) l.length cap, .pointer (some ⟨b, 4, none⟩), z34, z35, z36, z37, z38, z39, z40, z41, z42, z43, z44, z45, z46, z47, undef, undef, undef, undef, undef, undef, undef, undef, undef], defers := [] }) ∧ ∃ g2 cap2, Moves w W b [vb] ∧ W.heap[b]? = some (.cells #[.int .i64 m.st.1, .string m.st.2, .int .i64 m.most, (.slice (some ⟨g2, 0, none⟩) (m.back.length + 1) cap2), (.slice (some ⟨g, 0, none⟩) l.length cap), vo] 106 (0, 0)) ∧ W.heap[w.heap.size]? = some (.cells #[.int .i64 0, .string ⟨#[]⟩] 32 (0, 0)) ∧ W.heap[w.heap.size + 1]? = some (.cells #[.int .i64 x.1.1, .string x.1.2, .string x.2] 114 (0, 0)) ∧ W.ownsRow base 114 3 (.slice (some ⟨g2, 0, none⟩) (m.back.length + 1) cap2) (m.back.length + 1) ((m.back ++ [(m.st, x.2)]).flatMap turnC) ∧ (vb.ownBlock = some g2 ∨ w.heap.size < g2) | _ => False) ?rest ?region
  case region =>
    go_region_law (refine step_append_lies _ rfl (.tmp 37) (.tmp 45) 103 rfl base 114 i0 (.agg #[.int .i64 0, .string ⟨#[]⟩, .string ⟨#[]⟩]) 3 40 Try.underlying103 hi0 hi1 hi2 hi3 rfl (by decide) vb m.back.length (m.back.flatMap turnC) (by simp [Act.eval]) (RT1.out.drew.alloc _) ⟨W1.heap.size, 0, none⟩ 1 1 [.int .i64 m.st.1, .string m.st.2, .string x.2] (by simp [Act.eval]) rfl (World.news_of_block (World.alloc_heap_new W1.drew _)) (by simp [Value.oneCell']) (by decide) (by unfold maxLen; omega) (by omega) (by simp; omega) _ rfl ?_; intro g2 cap2 w2 hown hgrow hat hlt2; have hz2 : (W1.drew.alloc (.cells #[.int .i64 m.st.1, .string m.st.2, .string x.2] 114)).heap.size = W1.heap.size + 1 := (by simp); have b2 : w2.heap[b]? = some (.cells #[.int .i64 m.st.1, .string m.st.2, .int .i64 m.most, vb, (.slice (some ⟨g, 0, none⟩) l.length cap), vo] 106 (0, 0)) := ((hgrow.block b (Nat.lt_of_lt_of_le hlt (by simp; omega)) (row_ne B1.out (by decide) RT1.out)).trans (Below.heap_alloc W1.drew _ b (Nat.lt_of_lt_of_le hlt (show w.heap.size ≤ W1.heap.size by omega)))).trans B1.out; have k2 : w2.cell? ⟨b, 3, none⟩ = some vb := of_cells b2 3 vb rfl; have f2 := no_ice b2 3)
    all_goals
      have g2b : g2 ≠ b := by
        rcases hat with h1 | h1
        · intro e; subst e; exact H.out.nb h1.symm
        · intro e; subst e; rw [h1] at hlt; simp at hlt; omega
      have M2 : Moves w w2 b [vb] := by
        refine Moves.grown ?_ hgrow (fun k e => .inr (.inr ⟨vb, by simp, e⟩))
        have M1' := MM1.out.wide (rows' := [vb]) (by simp)
        first | exact (M1'.alloc _).drew | exact M1'.drew.alloc _
      have r2 : w2.heap[w.heap.size]? = some (.cells #[.int .i64 0, .string ⟨#[]⟩] 32 (0, 0)) := by
        refine ((hgrow.block _ (by simp; omega) (fun e => ?_)).trans (Below.heap_alloc W1 _ _ (by omega))).trans R1.out
        have := (Array.getElem?_eq_some_iff.1 (ownsRow_type H.out.rb _ e.symm).2.choose_spec).1
        omega
      have x2 : w2.heap[w.heap.size + 1]? = some (.cells #[.int .i64 x.1.1, .string x.1.2, .string x.2] 114 (0, 0)) := by
        refine ((hgrow.block _ (by simp; omega) (fun e => ?_)).trans (Below.heap_alloc W1 _ _ (by omega))).trans X1.out
        have := (Array.getElem?_eq_some_iff.1 (ownsRow_type H.out.rb _ e.symm).2.choose_spec).1
        omega
      refine ⟨⟨_, _, _, _, _, _, _, _, _, _, _, _, _, _, rfl⟩, g2, cap2, M2.set _, set_row b2, (Below.heap_setCell w2 ⟨b, 3, none⟩ _ _ (show w.heap.size ≠ b by omega)).trans r2, (Below.heap_setCell w2 ⟨b, 3, none⟩ _ _ (show w.heap.size + 1 ≠ b by omega)).trans x2, ?_, hat.imp id (fun e => by rw [e]; simp; omega)⟩
      rw [turns_append]
      exact ownsRow_setCell_other hown (fun e => g2b (by cases e; rfl)) _
  case rest =>
    intro e a W hq
    cases e with
    | normal =>
      rename_i a0
      obtain ⟨⟨z34, z35, z36, z37, z38, z39, z40, z41, z42, z43, z44, z45, z46, z47, rfl⟩, g2, cap2, M3, b3, rr3, x3, r3, hat⟩ := hq
      have hF : w.ownsRow base 114 3 (.slice (some ⟨g, 0, none⟩) (l.length + 1) cap) (l.length + 1) ((l ++ [x]).flatMap turnC) := by
        have := H.out.ra
        rw [HL.out, List.length_append, List.length_singleton] at this
        exact this
      have rF3 : W.ownsRow base 114 3 (.slice (some ⟨g, 0, none⟩) l.length cap) l.length (l.flatMap turnC) := M3.row (own_less hF) (fun e => hgne (by cases e; rfl)) (fun u hu => .inr (by rw [List.mem_singleton.1 hu]; exact fun e => H.out.dis g e.symm rfl))
      have hok : Ok { m with again := l, back := m.back ++ [(m.st, x.2)], st := x.1 } := by
        have := ok_redo H.out.ok
        simpa [redoP, ho, HL.out] using this
      have y0 := of_cells x3 0 _ rfl
      have y1 := of_cells x3 1 _ rfl
      have y2 := of_cells x3 2 _ rfl
      have s3 := of_cells b3 0 _ rfl
      have f3 := no_ice b3 0
      have s32 := of_cells b3 1 _ rfl
      have f32 := no_ice b3 1
      obtain ⟨W4, hW4⟩ : ∃ W4, W4 = (W.setCell ⟨b, 0, none⟩ (.int .i64 x.1.1)).setCell ⟨b, 1, none⟩ (.string x.1.2) := ⟨_, rfl⟩
      have M4 : Moves w W4 b [vb] := by rw [hW4]; exact (M3.set _).set _
      have b4 : W4.heap[b]? = some (.cells #[.int .i64 x.1.1, .string x.1.2, .int .i64 m.most, (.slice (some ⟨g2, 0, none⟩) (m.back.length + 1) cap2), (.slice (some ⟨g, 0, none⟩) l.length cap), vo] 106 (0, 0)) := by rw [hW4]; exact set_row (set_row b3)
      have r4 : W4.heap[w.heap.size]? = some (.cells #[.int .i64 0, .string ⟨#[]⟩] 32 (0, 0)) := by rw [hW4]; exact (Below.heap_setCell _ ⟨b, 1, none⟩ _ _ (show w.heap.size ≠ b by omega)).trans ((Below.heap_setCell W ⟨b, 0, none⟩ _ _ (show w.heap.size ≠ b by omega)).trans rr3)
      have x4 : W4.heap[w.heap.size + 1]? = some (.cells #[.int .i64 x.1.1, .string x.1.2, .string x.2] 114 (0, 0)) := by rw [hW4]; exact (Below.heap_setCell _ ⟨b, 1, none⟩ _ _ (show w.heap.size + 1 ≠ b by omega)).trans ((Below.heap_setCell W ⟨b, 0, none⟩ _ _ (show w.heap.size + 1 ≠ b by omega)).trans x3)
      have rF4 : W4.ownsRow base 114 3 (.slice (some ⟨g, 0, none⟩) l.length cap) l.length (l.flatMap turnC) := by rw [hW4]; exact ownsRow_setCell_other (ownsRow_setCell_other rF3 (fun e => hgne (by cases e; rfl)) _) (fun e => hgne (by cases e; rfl)) _
      have rT4 : W4.ownsRow base 114 3 (.slice (some ⟨g2, 0, none⟩) (m.back.length + 1) cap2) (m.back.length + 1) ((m.back ++ [(m.st, x.2)]).flatMap turnC) := by
        have g2b : g2 ≠ b := by
          rcases hat with h1 | h1
          · intro e; subst e; exact H.out.nb h1.symm
          · omega
        rw [hW4]; exact ownsRow_setCell_other (ownsRow_setCell_other r3 (fun e => g2b (by cases e; rfl)) _) (fun e => g2b (by cases e; rfl)) _
      have q0 := of_cells rr3 0 _ rfl
      have q1 := of_cells rr3 1 _ rfl
      have qf0 := no_ice rr3 0
      have qf1 := no_ice rr3 1
      have hwb : ¬ w.heap.size = b := by omega
      have hwb' : ¬ b = w.heap.size := by omega
      have hwb1 : ¬ w.heap.size + 1 = b := by omega
      have R4 := Lib.hid r4
      have z0 := of_cells x4 0 _ rfl
      have z1 := of_cells x4 1 _ rfl
      have z2 := of_cells x4 2 _ rfl
      have M4 := Lib.hid M4
      have b4 := Lib.hid b4
      have rF4 := Lib.hid rF4
      have rT4 := Lib.hid rT4
      have hat := Lib.hid hat
      have hok := Lib.hid hok
      have hW4 := Lib.hid hW4
      clear M3 b3 x3 r3 hF rF3 x4 rr3 r4
      refine a0 _ _ ?_
      go_wp2_with fail
      go_region
      all_goals
        have hgw : g ≠ w.heap.size := by omega
        have hg2w : g2 ≠ w.heap.size := by
          rcases hat.out with h1 | h1
          · have := (Array.getElem?_eq_some_iff.1 (ownsRow_type H.out.rb _ h1).2.choose_spec).1; omega
          · omega
        have M5 : Moves w ((W4.setCell ⟨w.heap.size, 0, none⟩ (.int .i64 x.1.1)).setCell ⟨w.heap.size, 1, none⟩ (.string x.1.2)).drew b [vb] := ((M4.out.grown (grown_cell _ _ _ _) (fun k e => .inl (by cases e; exact Nat.le_refl _))).grown (grown_cell _ _ _ _) (fun k e => .inl (by cases e; exact Nat.le_refl _))).drew
        have r5 := set_row (i := 1) (v := .string x.1.2) (set_row (i := 0) (v := .int .i64 x.1.1) R4.out)
        have b5 : ((W4.setCell ⟨w.heap.size, 0, none⟩ (.int .i64 x.1.1)).setCell ⟨w.heap.size, 1, none⟩ (.string x.1.2)).drew.heap[b]? = W4.heap[b]? := (Below.heap_setCell _ ⟨w.heap.size, 1, none⟩ _ _ (show b ≠ w.heap.size by omega)).trans (Below.heap_setCell W4 ⟨w.heap.size, 0, none⟩ _ _ (show b ≠ w.heap.size by omega))
        have rF5 : ((W4.setCell ⟨w.heap.size, 0, none⟩ (.int .i64 x.1.1)).setCell ⟨w.heap.size, 1, none⟩ (.string x.1.2)).drew.ownsRow base 114 3 (.slice (some ⟨g, 0, none⟩) l.length cap) l.length (l.flatMap turnC) := (ownsRow_setCell_other (ownsRow_setCell_other rF4.out (fun e => hgw (by cases e; rfl)) _) (fun e => hgw (by cases e; rfl)) _).drew
        have rT5 : ((W4.setCell ⟨w.heap.size, 0, none⟩ (.int .i64 x.1.1)).setCell ⟨w.heap.size, 1, none⟩ (.string x.1.2)).drew.ownsRow base 114 3 (.slice (some ⟨g2, 0, none⟩) (m.back.length + 1) cap2) (m.back.length + 1) ((m.back ++ [(m.st, x.2)]).flatMap turnC) := (ownsRow_setCell_other (ownsRow_setCell_other rT4.out (fun e => hg2w (by cases e; rfl)) _) (fun e => hg2w (by cases e; rfl)) _).drew
        have fT : ∀ k, (Value.slice (some ⟨g2, 0, none⟩) (m.back.length + 1) cap2).ownBlock = some k → vb.ownBlock = some k ∨ w.heap.size ≤ k := fun k e => by cases e; exact hat.out.imp id Nat.le_of_lt
        rw [show m.back.length + 1 = (m.back ++ [(m.st, x.2)]).length by simp] at rT5
        rw [← hW4.out]
        go_wp2_with fail
        refine bodyPost_ret (ret_ctt rfl _ _ w.heap.size _ _ rfl (show ((W4.setCell ⟨w.heap.size, 0, none⟩ (.int .i64 x.1.1)).setCell ⟨w.heap.size, 1, none⟩ (.string x.1.2)).drew.heap[w.heap.size]? = _ from r5)) rfl ?_
        refine ⟨rfl, ⟨_, _, H.out.turn (m' := { m with again := l, back := m.back ++ [(m.st, x.2)], st := x.1 }) (b5.trans b4.out) ?_ rF5 fT (fun k e => .inl e) (.inl fun k e => e) (show OpAt _ base m.opn vo from Moves.op (M5.wide (rows' := [vb, (.slice (some ⟨g, 0, none⟩) (l.length + 1) cap)]) (by simp)) H.out) hok.out⟩, Moves.spares (M5.wide (rows' := [vb, (.slice (some ⟨g, 0, none⟩) (l.length + 1) cap)]) (by simp)) H.out, Moves.belowB (M5.wide (rows' := [vb, (.slice (some ⟨g, 0, none⟩) (l.length + 1) cap)]) (by simp)) H.out⟩
        simpa using rT5
    | _ => exact hq.elim
end Go.Proofs.Ytihfkoomimohbaa.Ppair
