/- The methods of Past[galley/galleylaw17.Pair] that answer a step: Undo, Redo. -/
import Derived.Test.YtihfkoomimohbaaPpairMeth
namespace Go.Proofs.Ytihfkoomimohbaa.Ppair
open Go.RowKit Past17

theorem PAt.drew {w : World} {base b : Nat} {m : Pst (Int × ByteArray)} {vb va vo : Value} (h : PAt w base b m vb va vo) : PAt w.drew base b m vb va vo :=
  ⟨h.hb, h.blk, h.rb, h.ra, h.dis, ((Moves.refl w b [vb, va]).drew).op h, h.ok⟩
theorem past_now (w : World) (base b : Nat) (m : Pst (Int × ByteArray)) (h : Past w base b m) : Calls Try.prog 35 #[.pointer (some ⟨b, 0, none⟩)] w fun e w' => e = .returned (.agg #[.int .i64 m.st.1, .string m.st.2]) ∧ Below w.heap.size w w' := by
  obtain ⟨vb, va, vo, h⟩ := h
  exact now_calls b m.st [.int .i64 m.most, vb, va, vo] w h.blk
def ansT : Option ((Int × ByteArray) × ByteArray) × Int → Value
  | (some x, n) => .tuple #[.agg #[.int .i64 x.1.1, .string x.1.2], .string x.2, .int .i64 n]
  | (none, n) => .tuple #[.agg #[.int .i64 0, .string ⟨#[]⟩], .string ⟨#[]⟩, .int .i64 n]
/-- a store into a cell of a block of another kind -/
theorem PAt.setOther {w : World} {base b : Nat} {m : Pst (Int × ByteArray)} {vb va vo : Value} (h : PAt w base b m vb va vo) {g i : Nat} {cs : Array Value} {t : TypeId} {v : Value} (hg : w.heap[g]? = some (.cells cs t (0, 0))) (h1 : t ≠ 106) (h2 : t ≠ 114) (h3 : t ≠ 116) : PAt (w.setCell ⟨g, i, none⟩ v) base b m vb va vo := by
  have hgb : b ≠ g := fun e => by subst e; rw [h.blk] at hg; cases hg; exact h1 rfl
  refine ⟨h.hb, (Below.heap_setCell w ⟨g, i, none⟩ v b hgb).trans h.blk, ownsRow_setCell_other h.rb (fun e => (row_ne hg h2 h.rb) e.symm) _, ownsRow_setCell_other h.ra (fun e => (row_ne hg h2 h.ra) e.symm) _, h.dis, ?_, h.ok⟩
  have ho := h.op
  cases hm : m.opn with
  | none => rw [hm] at ho; exact ho
  | some x =>
    obtain ⟨s, wd, did⟩ := x
    rw [hm] at ho
    obtain ⟨o, e, hb, hc⟩ := ho
    exact ⟨o, e, hb, (Below.heap_setCell w ⟨g, i, none⟩ v o (fun e' => by subst e'; rw [hc] at hg; cases hg; exact h3 rfl)).trans hc⟩
theorem PAt.below' {w w' : World} {base b : Nat} {m : Pst (Int × ByteArray)} {vb va vo : Value} (h : PAt w base b m vb va vo) (hb : Below w.heap.size w w') : PAt w' base b m vb va vo := by
  have M : Moves w w' b [] := (Moves.refl w b _).below hb
  exact h.turn ((hb.block _ h.lt).trans h.blk) (M.row h.rb (fun e => h.nb e.symm) (fun u hu => by cases hu)) (M.row h.ra (fun e => h.na e.symm) (fun u hu => by cases hu)) (fun g e => .inl e) (fun g e => .inl e) (.inl fun g e => e) (Moves.op (M.wide (rows' := [vb, va]) (by simp)) h) h.ok

set_option maxRecDepth 100000 in
set_option maxHeartbeats 1000000 in
theorem undo_calls (w : World) (base b : Nat) (m : Pst (Int × ByteArray)) (h : Past w base b m) :
    Calls Try.prog 50 #[.pointer (some ⟨b, 0, none⟩)] w fun e w' => e = .returned (ansT (undoA m)) ∧ Past w' base b (undoP m) ∧ Spares w w' ∧ Below base w w' := by
  have hlt := h.size.2
  have hbase : base ≤ w.heap.size := by have := h.size; omega
  obtain ⟨W1, hW1⟩ : ∃ W1, W1 = w.alloc (.cells #[.int .i64 0, .string ⟨#[]⟩] 32) := ⟨_, rfl⟩
  have LB : Below w.heap.size w W1 := by rw [hW1]; exact (Below.refl _ w).alloc (Nat.le_refl _) _
  have hz1 : W1.heap.size = w.heap.size + 1 := by rw [hW1]; simp
  have x1 : W1.heap[w.heap.size]? = some (.cells #[.int .i64 0, .string ⟨#[]⟩] 32 (0, 0)) := by rw [hW1]; exact alloc_new w _
  have S1 := Lib.hid (Spares.of_below LB)
  have B1 := Lib.hid (LB.mono hbase)
  obtain ⟨vb, va, vo, P1⟩ := h.below LB
  have cO := of_cells P1.blk 5 vo rfl
  have hop := opAt_cases P1.op
  have q0 := of_cells x1 0 _ rfl
  have q1 := of_cells x1 1 _ rfl
  have qf0 := no_ice x1 0
  have qf1 := no_ice x1 1
  have hbn : ¬ b = w.heap.size := by omega
  have hbn' : ¬ w.heap.size = b := by omega
  have H := Lib.hid P1
  have X1 := Lib.hid x1
  have HW1 := Lib.hid hW1
  clear h P1 hW1 x1 LB
  go_enter Try.func50, Try.ntmps50
  go_wp2_with fail
  rw [← HW1.out]
  refine (closed_calls b vo m.opn.isSome W1 cO hop).mono ?_
  rintro e w1 ⟨rfl, hw1⟩
  subst w1
  cases ho : m.opn with
  | some x =>
    go_wp2_with fail
    have r1 := set_row (i := 1) (v := .string ⟨#[]⟩) (set_row (i := 0) (v := .int .i64 0) X1.out)
    have P1 := (H.out.setOther (i := 0) (v := .int .i64 0) X1.out (by decide) (by decide) (by decide)).setOther (i := 1) (v := .string ⟨#[]⟩) (set_row X1.out) (by decide) (by decide) (by decide)
    obtain ⟨W2, hW2⟩ : ∃ W2, W2 = (W1.setCell ⟨w.heap.size, 0, none⟩ (.int .i64 0)).setCell ⟨w.heap.size, 1, none⟩ (.string ⟨#[]⟩) := ⟨_, rfl⟩
    have L2 : Below base W1 W2 := by rw [hW2]; exact ((Below.refl _ _).setCell (p := ⟨w.heap.size, 0, none⟩) hbase _).setCell (p := ⟨w.heap.size, 1, none⟩) hbase _
    have S2 : Spares w W2 := fun g cs t fr e h1 h2 h3 => by
      rw [hW2]
      exact (Below.heap_setCell _ ⟨w.heap.size, 1, none⟩ _ g (Nat.ne_of_lt (Array.getElem?_eq_some_iff.1 e).1)).trans ((Below.heap_setCell W1 ⟨w.heap.size, 0, none⟩ _ g (Nat.ne_of_lt (Array.getElem?_eq_some_iff.1 e).1)).trans (S1.out g cs t fr e h1 h2 h3))
    have hz2 : W2.heap.size = w.heap.size + 1 := by rw [hW2, World.size_setCell, World.size_setCell]; exact hz1
    rw [← hW2] at r1 P1 ⊢
    have LA : Below W2.heap.size W2 (W2.alloc (.cells #[.int .i64 0, .string ⟨#[]⟩] 32)) := (Below.refl _ _).alloc (Nat.le_refl _) _
    have r3 := (LA.block w.heap.size (by omega)).trans r1
    refine bodyPost_ret (ret_ctt (fn := Try.f50) rfl _ _ w.heap.size _ _ (by rfl) r3) (by rfl) ?_
    exact ⟨by simp [undoA, ho, ansT], ⟨_, _, vo, by simpa [undoP, ho] using P1.below' LA⟩, S2.trans (Spares.of_below LA), (B1.out.trans L2).trans (LA.mono (by omega))⟩
  | none =>
    rcases List.eq_nil_or_concat m.back with hl | ⟨l, x, hl⟩
    · go_wp2_with fail
      have hD : PAt W1.drew base b m vb va vo := H.out.drew
      have HD := Lib.hid hD
      have HLl := Lib.hid hl
      have HO := Lib.hid ho
      clear hD hl ho
      go_region_with (go_at_call 60; (with_reducible refine (over_undo_none _ base b m vb va vo HD.out HLl.out).mono ?_); rintro e w2 ⟨rfl, L2⟩; have x2 := (L2.block w.heap.size (by rw [show W1.drew.heap.size = w.heap.size + 1 from hz1]; omega)).trans X1.out; have q20 := of_cells x2 0 _ rfl; have q21 := of_cells x2 1 _ rfl; have f20 := no_ice x2 0; have f21 := no_ice x2 1; have X2 := Lib.hid x2; have HL2 := Lib.hid L2; clear L2 x2)
      all_goals
        go_wp2_with fail
        have r5 := set_row (i := 1) (v := (.string ⟨#[]⟩)) (set_row (i := 0) (v := (.int .i64 0)) X2.out)
        have P5 := ((HD.out.below' HL2.out).setOther (i := 0) (v := (.int .i64 0)) X2.out (by decide) (by decide) (by decide)).setOther (i := 1) (v := (.string ⟨#[]⟩)) (set_row X2.out) (by decide) (by decide) (by decide)
        have S5 : Spares w ((w2.setCell ⟨w.heap.size, 0, none⟩ (.int .i64 0)).setCell ⟨w.heap.size, 1, none⟩ (.string ⟨#[]⟩)) := fun g cs t fr e h1 h2 h3 => (Below.heap_setCell _ ⟨w.heap.size, 1, none⟩ _ g (Nat.ne_of_lt (Array.getElem?_eq_some_iff.1 e).1)).trans ((Below.heap_setCell w2 ⟨w.heap.size, 0, none⟩ _ g (Nat.ne_of_lt (Array.getElem?_eq_some_iff.1 e).1)).trans ((fun g cs t fr e _ _ _ => (HL2.out.block g (Array.getElem?_eq_some_iff.1 e).1).trans e) g cs t fr (S1.out g cs t fr e h1 h2 h3) h1 h2 h3))
        have L5 : Below base w ((w2.setCell ⟨w.heap.size, 0, none⟩ (.int .i64 0)).setCell ⟨w.heap.size, 1, none⟩ (.string ⟨#[]⟩)) := ((B1.out.trans (((Below.refl _ _).drew.trans (HL2.out.mono (by rw [show W1.drew.heap.size = w.heap.size + 1 from hz1]; omega))))).setCell (p := ⟨w.heap.size, 0, none⟩) hbase _).setCell (p := ⟨w.heap.size, 1, none⟩) hbase _
        refine bodyPost_ret (ret_ctt (fn := Try.f50) rfl _ _ w.heap.size _ _ (by rfl) r5) (by rfl) ?_
        exact ⟨by simp [undoA, HO.out, HLl.out, ansT, Act.put], ⟨_, _, vo, by simpa [undoP, HO.out, HLl.out] using P5⟩, S5, L5⟩
    · rw [List.concat_eq_append] at hl
      go_wp2_with fail
      have hD : PAt W1.drew base b m vb va vo := H.out.drew
      have HD := Lib.hid hD
      have HLl := Lib.hid hl
      have HO := Lib.hid ho
      clear hD hl ho
      go_region_with (go_at_call 60; (with_reducible refine (over_undo_some _ base b m vb va vo HD.out HO.out l x HLl.out).mono ?_); rintro e w2 ⟨rfl, ⟨vb2, va2, P2⟩, S2, L2⟩; have x2 := S2 _ _ _ _ X1.out (by decide) (by decide) (by decide); have q20 := of_cells x2 0 _ rfl; have q21 := of_cells x2 1 _ rfl; have f20 := no_ice x2 0; have f21 := no_ice x2 1; have X2 := Lib.hid x2; have HP2 := Lib.hid P2; have HS2 := Lib.hid S2; have HL2 := Lib.hid L2; clear P2 S2 L2 x2)
      all_goals
        go_wp2_with fail
        have r5 := set_row (i := 1) (v := (.string x.1.2)) (set_row (i := 0) (v := (.int .i64 x.1.1)) X2.out)
        have P5 := (HP2.out.setOther (i := 0) (v := (.int .i64 x.1.1)) X2.out (by decide) (by decide) (by decide)).setOther (i := 1) (v := (.string x.1.2)) (set_row X2.out) (by decide) (by decide) (by decide)
        have S5 : Spares w ((w2.setCell ⟨w.heap.size, 0, none⟩ (.int .i64 x.1.1)).setCell ⟨w.heap.size, 1, none⟩ (.string x.1.2)) := fun g cs t fr e h1 h2 h3 => (Below.heap_setCell _ ⟨w.heap.size, 1, none⟩ _ g (Nat.ne_of_lt (Array.getElem?_eq_some_iff.1 e).1)).trans ((Below.heap_setCell w2 ⟨w.heap.size, 0, none⟩ _ g (Nat.ne_of_lt (Array.getElem?_eq_some_iff.1 e).1)).trans (HS2.out g cs t fr (S1.out g cs t fr e h1 h2 h3) h1 h2 h3))
        have L5 : Below base w ((w2.setCell ⟨w.heap.size, 0, none⟩ (.int .i64 x.1.1)).setCell ⟨w.heap.size, 1, none⟩ (.string x.1.2)) := ((B1.out.trans (((Below.refl _ _).drew.trans HL2.out))).setCell (p := ⟨w.heap.size, 0, none⟩) hbase _).setCell (p := ⟨w.heap.size, 1, none⟩) hbase _
        refine bodyPost_ret (ret_ctt (fn := Try.f50) rfl _ _ w.heap.size _ _ (by rfl) r5) (by rfl) ?_
        exact ⟨by simp [undoA, HO.out, HLl.out, ansT, Act.put], ⟨_, _, vo, by simpa [undoP, HO.out, HLl.out] using P5⟩, S5, L5⟩

set_option maxRecDepth 100000 in
set_option maxHeartbeats 1000000 in
theorem redo_calls (w : World) (base b : Nat) (m : Pst (Int × ByteArray)) (h : Past w base b m) :
    Calls Try.prog 51 #[.pointer (some ⟨b, 0, none⟩)] w fun e w' => e = .returned (ansT (redoA m)) ∧ Past w' base b (redoP m) ∧ Spares w w' ∧ Below base w w' := by
  have hlt := h.size.2
  have hbase : base ≤ w.heap.size := by have := h.size; omega
  obtain ⟨W1, hW1⟩ : ∃ W1, W1 = w.alloc (.cells #[.int .i64 0, .string ⟨#[]⟩] 32) := ⟨_, rfl⟩
  have LB : Below w.heap.size w W1 := by rw [hW1]; exact (Below.refl _ w).alloc (Nat.le_refl _) _
  have hz1 : W1.heap.size = w.heap.size + 1 := by rw [hW1]; simp
  have x1 : W1.heap[w.heap.size]? = some (.cells #[.int .i64 0, .string ⟨#[]⟩] 32 (0, 0)) := by rw [hW1]; exact alloc_new w _
  have S1 := Lib.hid (Spares.of_below LB)
  have B1 := Lib.hid (LB.mono hbase)
  obtain ⟨vb, va, vo, P1⟩ := h.below LB
  have cO := of_cells P1.blk 5 vo rfl
  have hop := opAt_cases P1.op
  have q0 := of_cells x1 0 _ rfl
  have q1 := of_cells x1 1 _ rfl
  have qf0 := no_ice x1 0
  have qf1 := no_ice x1 1
  have hbn : ¬ b = w.heap.size := by omega
  have hbn' : ¬ w.heap.size = b := by omega
  have H := Lib.hid P1
  have X1 := Lib.hid x1
  have HW1 := Lib.hid hW1
  clear h P1 hW1 x1 LB
  go_enter Try.func51, Try.ntmps51
  go_wp2_with fail
  rw [← HW1.out]
  refine (closed_calls b vo m.opn.isSome W1 cO hop).mono ?_
  rintro e w1 ⟨rfl, hw1⟩
  subst w1
  cases ho : m.opn with
  | some x =>
    go_wp2_with fail
    have r1 := set_row (i := 1) (v := .string ⟨#[]⟩) (set_row (i := 0) (v := .int .i64 0) X1.out)
    have P1 := (H.out.setOther (i := 0) (v := .int .i64 0) X1.out (by decide) (by decide) (by decide)).setOther (i := 1) (v := .string ⟨#[]⟩) (set_row X1.out) (by decide) (by decide) (by decide)
    obtain ⟨W2, hW2⟩ : ∃ W2, W2 = (W1.setCell ⟨w.heap.size, 0, none⟩ (.int .i64 0)).setCell ⟨w.heap.size, 1, none⟩ (.string ⟨#[]⟩) := ⟨_, rfl⟩
    have L2 : Below base W1 W2 := by rw [hW2]; exact ((Below.refl _ _).setCell (p := ⟨w.heap.size, 0, none⟩) hbase _).setCell (p := ⟨w.heap.size, 1, none⟩) hbase _
    have S2 : Spares w W2 := fun g cs t fr e h1 h2 h3 => by
      rw [hW2]
      exact (Below.heap_setCell _ ⟨w.heap.size, 1, none⟩ _ g (Nat.ne_of_lt (Array.getElem?_eq_some_iff.1 e).1)).trans ((Below.heap_setCell W1 ⟨w.heap.size, 0, none⟩ _ g (Nat.ne_of_lt (Array.getElem?_eq_some_iff.1 e).1)).trans (S1.out g cs t fr e h1 h2 h3))
    have hz2 : W2.heap.size = w.heap.size + 1 := by rw [hW2, World.size_setCell, World.size_setCell]; exact hz1
    rw [← hW2] at r1 P1 ⊢
    have LA : Below W2.heap.size W2 (W2.alloc (.cells #[.int .i64 0, .string ⟨#[]⟩] 32)) := (Below.refl _ _).alloc (Nat.le_refl _) _
    have r3 := (LA.block w.heap.size (by omega)).trans r1
    refine bodyPost_ret (ret_ctt (fn := Try.f51) rfl _ _ w.heap.size _ _ (by rfl) r3) (by rfl) ?_
    exact ⟨by simp [redoA, ho, ansT], ⟨_, _, vo, by simpa [redoP, ho] using P1.below' LA⟩, S2.trans (Spares.of_below LA), (B1.out.trans L2).trans (LA.mono (by omega))⟩
  | none =>
    rcases List.eq_nil_or_concat m.again with hl | ⟨l, x, hl⟩
    · go_wp2_with fail
      have hD : PAt W1.drew base b m vb va vo := H.out.drew
      have HD := Lib.hid hD
      have HLl := Lib.hid hl
      have HO := Lib.hid ho
      clear hD hl ho
      go_region_with (go_at_call 60; (with_reducible refine (over_redo_none _ base b m vb va vo HD.out HLl.out).mono ?_); rintro e w2 ⟨rfl, L2⟩; have x2 := (L2.block w.heap.size (by rw [show W1.drew.heap.size = w.heap.size + 1 from hz1]; omega)).trans X1.out; have q20 := of_cells x2 0 _ rfl; have q21 := of_cells x2 1 _ rfl; have f20 := no_ice x2 0; have f21 := no_ice x2 1; have X2 := Lib.hid x2; have HL2 := Lib.hid L2; clear L2 x2)
      all_goals
        go_wp2_with fail
        have r5 := set_row (i := 1) (v := (.string ⟨#[]⟩)) (set_row (i := 0) (v := (.int .i64 0)) X2.out)
        have P5 := ((HD.out.below' HL2.out).setOther (i := 0) (v := (.int .i64 0)) X2.out (by decide) (by decide) (by decide)).setOther (i := 1) (v := (.string ⟨#[]⟩)) (set_row X2.out) (by decide) (by decide) (by decide)
        have S5 : Spares w ((w2.setCell ⟨w.heap.size, 0, none⟩ (.int .i64 0)).setCell ⟨w.heap.size, 1, none⟩ (.string ⟨#[]⟩)) := fun g cs t fr e h1 h2 h3 => (Below.heap_setCell _ ⟨w.heap.size, 1, none⟩ _ g (Nat.ne_of_lt (Array.getElem?_eq_some_iff.1 e).1)).trans ((Below.heap_setCell w2 ⟨w.heap.size, 0, none⟩ _ g (Nat.ne_of_lt (Array.getElem?_eq_some_iff.1 e).1)).trans ((fun g cs t fr e _ _ _ => (HL2.out.block g (Array.getElem?_eq_some_iff.1 e).1).trans e) g cs t fr (S1.out g cs t fr e h1 h2 h3) h1 h2 h3))
        have L5 : Below base w ((w2.setCell ⟨w.heap.size, 0, none⟩ (.int .i64 0)).setCell ⟨w.heap.size, 1, none⟩ (.string ⟨#[]⟩)) := ((B1.out.trans (((Below.refl _ _).drew.trans (HL2.out.mono (by rw [show W1.drew.heap.size = w.heap.size + 1 from hz1]; omega))))).setCell (p := ⟨w.heap.size, 0, none⟩) hbase _).setCell (p := ⟨w.heap.size, 1, none⟩) hbase _
        refine bodyPost_ret (ret_ctt (fn := Try.f51) rfl _ _ w.heap.size _ _ (by rfl) r5) (by rfl) ?_
        exact ⟨by simp [redoA, HO.out, HLl.out, ansT, Act.put], ⟨_, _, vo, by simpa [redoP, HO.out, HLl.out] using P5⟩, S5, L5⟩
    · rw [List.concat_eq_append] at hl
      go_wp2_with fail
      have hD : PAt W1.drew base b m vb va vo := H.out.drew
      have HD := Lib.hid hD
      have HLl := Lib.hid hl
      have HO := Lib.hid ho
      clear hD hl ho
      go_region_with (go_at_call 60; (with_reducible refine (over_redo_some _ base b m vb va vo HD.out HO.out l x HLl.out).mono ?_); rintro e w2 ⟨rfl, ⟨vb2, va2, P2⟩, S2, L2⟩; have x2 := S2 _ _ _ _ X1.out (by decide) (by decide) (by decide); have q20 := of_cells x2 0 _ rfl; have q21 := of_cells x2 1 _ rfl; have f20 := no_ice x2 0; have f21 := no_ice x2 1; have X2 := Lib.hid x2; have HP2 := Lib.hid P2; have HS2 := Lib.hid S2; have HL2 := Lib.hid L2; clear P2 S2 L2 x2)
      all_goals
        go_wp2_with fail
        have r5 := set_row (i := 1) (v := (.string x.1.2)) (set_row (i := 0) (v := (.int .i64 x.1.1)) X2.out)
        have P5 := (HP2.out.setOther (i := 0) (v := (.int .i64 x.1.1)) X2.out (by decide) (by decide) (by decide)).setOther (i := 1) (v := (.string x.1.2)) (set_row X2.out) (by decide) (by decide) (by decide)
        have S5 : Spares w ((w2.setCell ⟨w.heap.size, 0, none⟩ (.int .i64 x.1.1)).setCell ⟨w.heap.size, 1, none⟩ (.string x.1.2)) := fun g cs t fr e h1 h2 h3 => (Below.heap_setCell _ ⟨w.heap.size, 1, none⟩ _ g (Nat.ne_of_lt (Array.getElem?_eq_some_iff.1 e).1)).trans ((Below.heap_setCell w2 ⟨w.heap.size, 0, none⟩ _ g (Nat.ne_of_lt (Array.getElem?_eq_some_iff.1 e).1)).trans (HS2.out g cs t fr (S1.out g cs t fr e h1 h2 h3) h1 h2 h3))
        have L5 : Below base w ((w2.setCell ⟨w.heap.size, 0, none⟩ (.int .i64 x.1.1)).setCell ⟨w.heap.size, 1, none⟩ (.string x.1.2)) := ((B1.out.trans (((Below.refl _ _).drew.trans HL2.out))).setCell (p := ⟨w.heap.size, 0, none⟩) hbase _).setCell (p := ⟨w.heap.size, 1, none⟩) hbase _
        refine bodyPost_ret (ret_ctt (fn := Try.f51) rfl _ _ w.heap.size _ _ (by rfl) r5) (by rfl) ?_
        exact ⟨by simp [redoA, HO.out, HLl.out, ansT, Act.put], ⟨_, _, vo, by simpa [redoP, HO.out, HLl.out] using P5⟩, S5, L5⟩
end Go.Proofs.Ytihfkoomimohbaa.Ppair
