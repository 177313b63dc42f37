/- Past[string].keep. -/
import Derived.Test.YtihfkoomimohbaaPstringMem
import Derived.Deep.RegionLaw
import Derived.RangeFuncBox
import Derived.Maps.AppendAt
namespace Go.Proofs.Ytihfkoomimohbaa.Pstring
open Go.RowKit Past17

theorem infoTurn : (Try.prog.info? 90).map (fun i => (i.zero, i.size, i.bytes)) = some (some (.agg #[.string ⟨#[]⟩, .string ⟨#[]⟩]), 2, 32) := by kernel_rfl
theorem info_parts {P : Program} {t : TypeId} {z : Value} {n b : Nat} (h : (P.info? t).map (fun i => (i.zero, i.size, i.bytes)) = some (some z, n, b)) : ∃ i, P.info? t = some i ∧ i.zero = some z ∧ i.size = n ∧ i.bytes = b := by
  obtain ⟨i, hi, hz⟩ := Option.map_eq_some_iff.1 h
  simp only [Prod.mk.injEq] at hz
  exact ⟨i, hi, hz.1, hz.2.1, hz.2.2⟩
theorem turns_append (l : List (ByteArray × ByteArray)) (x : ByteArray × ByteArray) : (l ++ [x]).flatMap turnC = l.flatMap turnC ++ [.string x.1, .string x.2] := by simp [turnC]
theorem turns_length (l : List (ByteArray × ByteArray)) : (l.flatMap turnC).length = l.length * 2 := by
  induction l with
  | nil => rfl
  | cons x l ih => simp only [List.flatMap_cons, List.length_append, ih, List.length_cons, turnC]; simp; omega
theorem tail_turns (l : List (ByteArray × ByteArray)) : (l.flatMap turnC).drop 2 = l.tail.flatMap turnC := by cases l <;> simp [turnC]

theorem add_none (g o j : Nat) : (⟨g, o, none⟩ : Addr).add j = ⟨g, o + j, none⟩ := by unfold Addr.add; split <;> simp_all
theorem form_at {w : World} {base : Nat} {e : TypeId} {size n x y : Nat} {v : Value} {xs : List Value} (h : w.ownsRow base e size v n xs) (hat : v.ownBlock = some x ∨ v.ownBlock = some y) : ∃ g cap, v = .slice (some ⟨g, 0, none⟩) n cap ∧ (g = x ∨ g = y) := by
  rcases h.2 with ⟨rfl, _⟩ | ⟨g, cap, cur, rfl, _⟩
  · rcases hat with h | h <;> cases h
  · exact ⟨g, cap, rfl, hat.imp (fun h => by cases h; rfl) (fun h => by cases h; rfl)⟩
theorem own_less {w : World} {base : Nat} {A : Option Addr} {cap : Nat} {l : List (ByteArray × ByteArray)} {x : ByteArray × ByteArray} (h : w.ownsRow base 90 2 (.slice A (l.length + 1) cap) (l.length + 1) ((l ++ [x]).flatMap turnC)) : w.ownsRow base 90 2 (.slice A l.length cap) l.length (l.flatMap turnC) := by
  refine ⟨turns_length l, ?_⟩
  rcases h.2 with ⟨_, hn⟩ | ⟨g, cap', cur, e, hb, hg, hn, hm, hs, ht⟩
  · omega
  · cases e
    refine .inr ⟨g, cap, cur, rfl, hb, hg, by omega, hm, hs, ?_⟩
    have h2 := congrArg (List.take (l.length * 2)) ht
    rw [List.take_take, Nat.min_eq_left (by omega), turns_append, List.take_append_of_le_length (by rw [turns_length]; omega)] at h2
    rw [List.take_of_length_le (l := List.flatMap turnC l) (by rw [turns_length]; omega)] at h2
    exact h2
theorem tail_news {W : World} {base g n cap : Nat} {l : List (ByteArray × ByteArray)} (h : W.ownsRow base 90 2 (.slice (some ⟨g, 0, none⟩) n cap) n (l.flatMap turnC)) (o : Obj) :
    ∀ j u, (l.tail.flatMap turnC)[j]? = some u → (W.alloc o).cell? ((⟨g, 2, none⟩ : Addr).add j) = some u := fun j u hj => by
  rw [← tail_turns, List.getElem?_drop] at hj
  have h1 := h.cells (g := g) rfl _ _ hj
  rw [add_none] at h1 ⊢
  rw [Nat.zero_add] at h1
  exact (World.cell?_of_block (Below.heap_alloc W o g (World.block_lt_of_cell? W _ h1))).trans h1
theorem turns_one (l : List (ByteArray × ByteArray)) : ∀ u ∈ l.flatMap turnC, u.oneCell' = true := by
  intro u hu
  obtain ⟨x, _, hx⟩ := List.mem_flatMap.1 hu
  simp [turnC] at hx
  rcases hx with rfl | rfl <;> rfl

set_option maxRecDepth 100000 in
set_option maxHeartbeats 1000000 in
theorem keep_calls (w : World) (base b : Nat) (m : Pst ByteArray) (vb va vo : Value) (s : ByteArray) (wd : ByteArray) (h : PAt w base b m vb va vo) (ha : m.again = []) :
    Calls Try.prog 40 #[.pointer (some ⟨b, 0, none⟩), .agg #[.string s, .string wd]] w fun e w' => (∃ v, e = .returned v) ∧ (∃ vb', PAt w' base b (keepP m (s, wd)) vb' va vo) ∧ Spares w w' ∧ Below base w w' := by
  obtain ⟨i0, hi0, hi1, hi2, hi3⟩ := info_parts infoTurn
  have H := Lib.hid h
  have hlen := h.ok.len
  have hmx := h.ok.mx
  have hlt := (Array.getElem?_eq_some_iff.1 h.blk).1
  have hbs : base ≤ w.heap.size := by have := h.hb; omega
  obtain ⟨W0, hW0⟩ : ∃ W0, W0 = w.alloc (.cells #[.string s, .string wd] 90) := ⟨_, rfl⟩
  have hg0 : w.grownBy W0 none := by rw [hW0]; exact World.grownBy_alloc w _ none
  have hB0 : Below w.heap.size w W0 := by rw [hW0]; exact (Below.refl _ w).alloc (Nat.le_refl _) _
  have x0 : W0.heap[w.heap.size]? = some (.cells #[.string s, .string wd] 90 (0, 0)) := by rw [hW0]; exact World.alloc_heap_new w _
  have b0 := (hB0.block _ hlt).trans h.blk
  have r0 : W0.ownsRow base 90 2 vb m.back.length (m.back.flatMap turnC) := by rw [hW0]; exact h.rb.alloc _
  have c1 := of_cells b0 1 (.int .i64 m.most) rfl
  have c2 := of_cells b0 2 vb rfl
  have cx : W0.cell? ⟨w.heap.size, 0, none⟩ = some (.string s) := of_cells x0 0 _ rfl
  
  have cy : W0.cell? ⟨w.heap.size, 1, none⟩ = some (.string wd) := of_cells x0 1 _ rfl
  have hz0 : W0.heap.size = w.heap.size + 1 := by rw [hW0]; simp
  have R0 := Lib.hid r0
  have B0 := Lib.hid b0
  have hl0 : b < W0.heap.size := by omega
  have hw0 : w.heap.size < W0.heap.size := by omega
  have HB0 := Lib.hid hB0
  have HZ0 := Lib.hid hz0
  have HW0 := Lib.hid hW0
  clear h hg0 hB0 b0 r0 hz0 hW0 x0
  go_enter Try.func40, Try.ntmps40
  go_wp2_with fail
  rw [← HW0.out]
  go_region_law (refine step_append_lies _ rfl (.tmp 8) (.tmp 10) 85 rfl base 90 i0 (.agg #[.string ⟨#[]⟩, .string ⟨#[]⟩]) 2 32 Try.underlying85 hi0 hi1 hi2 hi3 rfl (by decide) vb m.back.length (m.back.flatMap turnC) (by simp [Act.eval]) (R0.out.drew.alloc _) ⟨W0.heap.size, 0, none⟩ 1 1 [.string s, .string wd] (by simp [Act.eval]) rfl (World.news_of_block (World.alloc_heap_new W0.drew _)) (by simp [Value.oneCell']) (by decide) (by unfold maxLen; omega) (by omega) (by have := HZ0.out; simp; omega) _ rfl ?_; intro g cap w1 hown hgrow hat hlt1; have hz1 : (W0.drew.alloc (.cells #[.string s, .string wd] 90)).heap.size = W0.heap.size + 1 := (by simp); have b1 : w1.heap[b]? = some (.cells #[.string m.st, .int .i64 m.most, vb, va, vo] 88 (0, 0)) := ((hgrow.block b (Nat.lt_of_lt_of_le hl0 (Nat.le_trans (Nat.le_succ _) (Nat.le_of_eq hz1.symm))) (row_ne B0.out (by decide) R0.out)).trans (Below.heap_alloc W0.drew _ b hl0)).trans B0.out; have k1 : w1.cell? ⟨b, 2, none⟩ = some vb := of_cells b1 2 vb rfl; have k2 := no_ice b1 2)
  all_goals
    have M1 : Moves w w1 b [vb] := by
      refine Moves.grown ?_ hgrow (fun k e => .inr (.inr ⟨vb, by simp, e⟩))
      have M0 : Moves w W0 b [vb] := (Moves.refl w b _).below HB0.out
      first | exact (M0.alloc _).drew | exact M0.drew.alloc _
    have hg' : w.heap.size < g ∨ vb.ownBlock = some g := by
      rcases hat with h1 | h1
      · exact .inr h1
      · exact .inl (by rw [h1]; simp; omega)
    obtain ⟨W2, hW2⟩ : ∃ x, x = w1.setCell ⟨b, 2, none⟩ (.slice (some ⟨g, 0, none⟩) (m.back.length + 1) cap) := ⟨_, rfl⟩
    have M2 : Moves w W2 b [vb] := by rw [hW2]; exact M1.set _
    have b2 : W2.heap[b]? = some (.cells #[.string m.st, .int .i64 m.most, .slice (some ⟨g, 0, none⟩) (m.back.length + 1) cap, va, vo] 88 (0, 0)) := by rw [hW2]; exact set_row b1
    have gb : g ≠ b := by
      rcases hg' with h1 | h1
      · omega
      · intro e; subst e; exact H.out.nb h1.symm
    have r2 : W2.ownsRow base 90 2 (.slice (some ⟨g, 0, none⟩) (m.back.length + 1) cap) (m.back.length + 1) ((m.back ++ [(s, wd)]).flatMap turnC) := by
      rw [hW2, turns_append]; exact ownsRow_setCell_other hown (fun e => gb (by cases e; rfl)) _
    have ra2 : W2.ownsRow base 90 2 va m.again.length (m.again.flatMap turnC) := by
      refine M2.row H.out.ra (fun e => H.out.na e.symm) (fun u hu => by rw [List.mem_singleton.1 hu]; exact H.out.dis')
    have d1 := of_cells b2 1 (.int .i64 m.most) rfl
    have d2 := of_cells b2 2 (.slice (some ⟨g, 0, none⟩) (m.back.length + 1) cap) rfl
    rw [← hW2]
    have HM2 := Lib.hid M2
    have HR2 := Lib.hid r2
    have HA2 := Lib.hid ra2
    have HB2 := Lib.hid b2
    clear hown hgrow hat hz1 b1 k1 k2 M1 hW2 M2 r2 ra2 b2 c1 c2 cx cy
    go_wp2_with fail
    go_quiet (fail)
    obtain ⟨W3, hW3⟩ : ∃ x, x = W2.drewN nq := ⟨_, rfl⟩
    have M3 : Moves w W3 b [vb] := by rw [hW3]; exact ⟨HM2.out.os, HM2.out.tape, HM2.out.output, HM2.out.size, HM2.out.same⟩
    have r3 : W3.ownsRow base 90 2 (.slice (some ⟨g, 0, none⟩) (m.back.length + 1) cap) (m.back.length + 1) ((m.back ++ [(s, wd)]).flatMap turnC) := by rw [hW3]; exact HR2.out
    have ra3 : W3.ownsRow base 90 2 va m.again.length (m.again.flatMap turnC) := by rw [hW3]; exact HA2.out
    have b3 : W3.heap[b]? = some (.cells #[.string m.st, .int .i64 m.most, .slice (some ⟨g, 0, none⟩) (m.back.length + 1) cap, va, vo] 88 (0, 0)) := by rw [hW3]; exact HB2.out
    have hb3 : b < W3.heap.size := (Array.getElem?_eq_some_iff.1 b3).1
    have hz3 : g < W3.heap.size := (Array.getElem?_eq_some_iff.1 (ownsRow_type r3 g rfl).2.choose_spec).1
    rw [← hW3]
    have M3 := Lib.hid M3
    have R3 := Lib.hid r3
    have A3 := Lib.hid ra3
    have B3 := Lib.hid b3
    have e2 := of_cells b3 2 (.slice (some ⟨g, 0, none⟩) (m.back.length + 1) cap) rfl
    clear HM2 HR2 HA2 HB2 d1 d2 r3 ra3 b3 hW3
    by_cases ht : m.most < m.back.length + 1
    · have t2 : (m.most : Int) < m.back.length + 1 := by omega
      have hcap : m.back.length + 1 ≤ cap := by
        rcases R3.out.2 with ⟨e, _⟩ | ⟨g', cap', cur, e, _, _, hle, _⟩
        · cases e
        · cases e; exact hle
      have hb3w := M3.out.size
      by_cases hc1 : cap = 1
      · subst hc1
        have hl1 : m.back.length = 0 := by omega
        go_wp2_with (at_builtin; refine wpList_append_own_at _ rfl (.tmp 25) (.tmp 30) 85 rfl base 90 i0 (.agg #[.string ⟨#[]⟩, .string ⟨#[]⟩]) 2 32 Try.underlying85 hi0 hi1 hi2 hi3 rfl (by decide) (.slice (some ⟨W3.heap.size, 0, none⟩) 0 0) 0 [] (by simp [Act.eval]) (World.ownsRow_made W3 #[] 0 (by omega) (by unfold maxLen; omega) rfl) ⟨g, 0, none⟩ 0 0 [] (by simp [Act.eval]) rfl (fun j u hj => by simp at hj) (fun u hu => by simp at hu) (by unfold maxLen; omega) (by omega) (by simp; omega) ?_; intro v4 w4 hown4 hgrow4 hnil4 hat4; have b4 : w4.heap[b]? = some (.cells #[.string m.st, .int .i64 m.most, .slice (some ⟨g, 0, none⟩) (m.back.length + 1) 1, va, vo] 88 (0, 0)) := ((hgrow4.block b (by simp; omega) (by simp [Value.ownBlock]; omega)).trans (Below.heap_alloc W3 _ b hb3)).trans B3.out; have k4 : w4.cell? ⟨b, 2, none⟩ = some (.slice (some ⟨g, 0, none⟩) (m.back.length + 1) 1) := of_cells b4 2 _ rfl; have f4 := no_ice b4 2; obtain ⟨g4, cap4, rfl, hg4⟩ := form_at hown4 hat4)
        have hl : keepL m.most (m.back ++ [(s, wd)]) = (m.back ++ [(s, wd)]).tail := by unfold keepL; rw [if_pos (by rw [List.length_append, List.length_singleton]; omega)]
        have hok := ok_keep H.out.ok ha (s, wd)
        have hms : w.heap.size ≤ g4 := by
          have h1 : (W3.alloc (.cells #[] 90)).heap.size = W3.heap.size + 1 := by simp
          rcases hg4 with h | h <;> omega
        have M4 : Moves w w4 b [vb] := (M3.out.alloc _).grown hgrow4 (fun k e => .inl (by cases e; exact hb3w))
        go_end0
        refine ⟨⟨_, rfl⟩, ⟨.slice (some ⟨g4, 0, none⟩) 0 cap4, H.out.turn (m' := keepP m (s, wd)) (set_row b4) ?_ ?_ (fun k e => .inr (by cases e; exact hms)) (fun k e => .inl e) (.inl fun k e => e) (show OpAt _ base m.opn vo from Moves.op ((M4.set _).wide (rows' := [vb, va]) (by simp)) H.out) hok⟩, Moves.spares ((M4.set _).wide (by simp)) H.out, Moves.belowB ((M4.set _).wide (by simp)) H.out⟩
        · show World.ownsRow _ _ _ _ _ (keepL m.most (m.back ++ [(s, wd)])).length ((keepL m.most (m.back ++ [(s, wd)])).flatMap turnC)
          rw [hl]
          refine ownsRow_setCell_other ?_ (fun e => by cases e; have := H.out.lt; omega) _
          have hb0 : m.back = [] := List.eq_nil_of_length_eq_zero hl1
          simpa [hb0] using hown4
        · exact (M4.set _).row H.out.ra (fun e => H.out.na e.symm) (fun u hu => by rw [List.mem_singleton.1 hu]; exact H.out.dis')
      · have hc2 : ¬ (cap : Int) = 1 := by omega
        go_wp2_with (at_builtin; refine wpList_append_own_at _ rfl (.tmp 25) (.tmp 30) 85 rfl base 90 i0 (.agg #[.string ⟨#[]⟩, .string ⟨#[]⟩]) 2 32 Try.underlying85 hi0 hi1 hi2 hi3 rfl (by decide) (.slice (some ⟨W3.heap.size, 0, none⟩) 0 0) 0 [] (by simp [Act.eval]) (World.ownsRow_made W3 #[] 0 (by omega) (by unfold maxLen; omega) rfl) ⟨g, 2, none⟩ m.back.length (cap - 1) ((m.back ++ [(s, wd)]).tail.flatMap turnC) (by simp [Act.eval]) (by rw [turns_length]; simp) (tail_news R3.out _) (turns_one _) (by unfold maxLen; omega) (by omega) (by simp; omega) ?_; intro v4 w4 hown4 hgrow4 hnil4 hat4; have b4 : w4.heap[b]? = some (.cells #[.string m.st, .int .i64 m.most, .slice (some ⟨g, 0, none⟩) (m.back.length + 1) cap, va, vo] 88 (0, 0)) := ((hgrow4.block b (by simp; omega) (by simp [Value.ownBlock]; omega)).trans (Below.heap_alloc W3 _ b hb3)).trans B3.out; have k4 : w4.cell? ⟨b, 2, none⟩ = some (.slice (some ⟨g, 0, none⟩) (m.back.length + 1) cap) := of_cells b4 2 _ rfl; have f4 := no_ice b4 2; obtain ⟨g4, cap4, rfl, hg4⟩ := form_at hown4 hat4)
        have hl : keepL m.most (m.back ++ [(s, wd)]) = (m.back ++ [(s, wd)]).tail := by unfold keepL; rw [if_pos (by rw [List.length_append, List.length_singleton]; omega)]
        have hok := ok_keep H.out.ok ha (s, wd)
        have hms : w.heap.size ≤ g4 := by
          have h1 : (W3.alloc (.cells #[] 90)).heap.size = W3.heap.size + 1 := by simp
          rcases hg4 with h | h <;> omega
        have M4 : Moves w w4 b [vb] := (M3.out.alloc _).grown hgrow4 (fun k e => .inl (by cases e; exact hb3w))
        go_end0
        refine ⟨⟨_, rfl⟩, ⟨.slice (some ⟨g4, 0, none⟩) m.back.length cap4, H.out.turn (m' := keepP m (s, wd)) (set_row b4) ?_ ?_ (fun k e => .inr (by cases e; exact hms)) (fun k e => .inl e) (.inl fun k e => e) (show OpAt _ base m.opn vo from Moves.op ((M4.set _).wide (rows' := [vb, va]) (by simp)) H.out) hok⟩, Moves.spares ((M4.set _).wide (by simp)) H.out, Moves.belowB ((M4.set _).wide (by simp)) H.out⟩
        · show World.ownsRow _ _ _ _ _ (keepL m.most (m.back ++ [(s, wd)])).length ((keepL m.most (m.back ++ [(s, wd)])).flatMap turnC)
          rw [hl]
          refine ownsRow_setCell_other ?_ (fun e => by cases e; have := H.out.lt; omega) _
          simpa using hown4
        · exact (M4.set _).row H.out.ra (fun e => H.out.na e.symm) (fun u hu => by rw [List.mem_singleton.1 hu]; exact H.out.dis')
    · have t2 : ¬ (m.most : Int) < m.back.length + 1 := by omega
      have hl : keepL m.most (m.back ++ [(s, wd)]) = m.back ++ [(s, wd)] := by unfold keepL; rw [if_neg (by rw [List.length_append, List.length_singleton]; omega)]
      have hok := ok_keep H.out.ok ha (s, wd)
      go_wp2_with fail
      go_end0
      refine ⟨⟨_, rfl⟩, ⟨.slice (some ⟨g, 0, none⟩) (m.back.length + 1) cap, H.out.turn (m' := keepP m (s, wd)) B3.out ?_ A3.out (fun k e => by cases e; exact hg'.symm.imp id Nat.le_of_lt) (fun k e => .inl e) (.inl fun k e => e) (show OpAt _ base m.opn vo from Moves.op (M3.out.wide (rows' := [vb, va]) (by simp)) H.out) hok⟩, Moves.spares (M3.out.wide (by simp)) H.out, Moves.belowB (M3.out.wide (by simp)) H.out⟩
      show World.ownsRow _ _ _ _ _ (keepL m.most (m.back ++ [(s, wd)])).length ((keepL m.most (m.back ++ [(s, wd)])).flatMap turnC)
      rw [hl, List.length_append, List.length_singleton]
      exact R3.out
end Go.Proofs.Ytihfkoomimohbaa.Pstring
