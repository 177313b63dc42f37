/- The statements' gone: each step of its two appends. -/
import Derived.Test.YtcnbfpmognijcaaDoorGoneOps
namespace Go.Proofs.YtcnbfpmognijcaaDoor
open Go.RowKit Go.Shelf Galley Go.Proofs.YtcnbfpmognijcaaDoorW.PrintWords
attribute [local go_sem] Oper.semAt_some

section
variable {n l : Nat} {Q : Exit → Act → World → Prop} {f : Value} {W : World} {n0 BP BS Bx : Nat} {p r wd : Int} {wh : Bool} {v1 v2 : Value} {k : Nat} {xs1 xs2 : List Value}
set_option maxRecDepth 100000 in
set_option maxHeartbeats 1000000 in
theorem gone_step (hk : k ≤ 1073741824) (hn : n0 ≤ W.heap.size) (hX : some Bx ≠ v2.ownBlock) (hPS : BP ≠ BS) (hXP : Bx ≠ BP) (hXS : Bx ≠ BS) (hP0 : n0 ≤ BP) (hS0 : n0 ≤ BS) (L : Array Bool) (a : Act) (w : World) (i : Nat)
    (hJ : RJ f W n0 BP BS Bx p r wd wh v1 v2 k xs1 xs2 L a w) (hi : i ∈ Region.ready .any goneOps L) :
    wpOpIn (Fence.wide.inRound l) n Tryd.prog goneOps Q i (RJ f W n0 BP BS Bx p r wd wh v1 v2 k xs1 xs2 (L.setIfInBounds i true)) a w := by
  obtain ⟨b0, b1, b2, b3, b4, b5, b6, b7, b8, b9, x11, x12, x13, x14, x15, x16, x17, x18, rfl, rfl, h⟩ := hJ
  have hm := List.all_eq_true.1 (gone_ready b0 b1 b2 b3 b4 b5 b6 b7 b8 b9) i hi
  have hw : n0 ≤ w.heap.size := Nat.le_trans hn h.bel.size
  obtain ⟨j0, hj0, hj1, hj2, hj3⟩ := info_parts infoInt
  obtain ⟨k0, hk0, hk1, hk2, hk3⟩ := info_parts infoStep
  clear hi
  match i, hm with
  | 0, hm =>
    obtain rfl : b0 = false := by simpa [goneMay] using hm
    have hb8 : b8 = false := by
      cases hb : b8 with
      | false => rfl
      | true => have := (h.o8 hb).1; cases this
    have c := h.bP.cell
    subst hb8
    simp only [Bool.false_eq_true, if_false] at c
    obtain ⟨ty, pos, aft, ho⟩ := gone_op0
    refine wpOpIn_step ho (fun K hK => ?_)
    unfold goneF
    go_simp
    refine hK _ _ ⟨true, b1, b2, b3, b4, b5, b6, b7, false, b9, v1, x12, x13, x14, x15, x16, x17, x18, rfl, rfl, { h with h0 := fun _ => rfl, o8 := fun e => by cases e }⟩
  | 1, hm =>
    obtain ⟨ty, pos, aft, ho⟩ := gone_op1
    refine wpOpIn_step ho (fun K hK => ?_)
    unfold goneF
    go_simp
    refine hK _ _ ⟨b0, true, b2, b3, b4, b5, b6, b7, b8, b9, x11, .int .i64 p, x13, x14, x15, x16, x17, x18, rfl, rfl, { h with h1 := fun _ => rfl }⟩
  | 2, hm =>
    have h1 := h.h1 (by simp [goneMay] at hm; exact hm.2)
    subst h1
    obtain ⟨ty, pos, aft, ho⟩ := gone_op2
    refine wpOpIn_step ho (fun K hK => ?_)
    unfold goneF
    go_simp
    have hw' := h.alloc hw (.cells #[.int .i64 p] 3)
    refine hK _ _ ⟨b0, b1, true, b3, b4, b5, b6, b7, b8, b9, x11, .int .i64 p, .slice (some ⟨w.heap.size, 0, none⟩) 1 1, x14, x15, x16, x17, x18, rfl, rfl, { hw' with h2 := fun _ _ => ⟨w.heap.size, rfl, by simp⟩ }⟩
  | 3, hm =>
    obtain ⟨⟨rfl, rfl⟩, rfl⟩ : (b3 = false ∧ b0 = true) ∧ b2 = true := by simpa [goneMay] using hm
    obtain rfl := h.h0 rfl
    obtain ⟨g, rfl, hg⟩ := h.h2 rfl rfl
    have hr1 := h.r1 rfl
    obtain ⟨ty, pos, aft, ho⟩ := gone_op3
    refine wpOpIn_step ho (fun K hK => ?_)
    refine Eq.mpr (if_pos (c := Region.wanted _ _ = true) rfl) ?_
    refine wpIn_append w (.tmp 11) (.tmp 13) 35 rfl n0 3 j0 (.int .i64 0) 1 8 Tryd.underlying35 hj0 hj1 hj2 hj3 rfl (by decide) _ k xs1 rfl hr1 ⟨g, 0, none⟩ 1 1 [.int .i64 p] rfl rfl (cell_one w _ _ hg) (by simp [Value.oneCell']) (by unfold maxLen; omega) (by omega) hw ?_
    intro y w' hown hgrow
    refine hK _ _ ⟨true, b1, true, true, b4, b5, b6, b7, b8, b9, x11, x12, _, y, x15, x16, x17, x18, rfl, rfl, h.app1 hw hown hgrow⟩
  | 4, hm =>
    obtain rfl : b4 = false := by simpa [goneMay] using hm
    have hb9 : b9 = false := by
      cases hb : b9 with
      | false => rfl
      | true => have := (h.o9 hb).1; cases this
    have c := h.bS.cell
    subst hb9
    simp only [Bool.false_eq_true, if_false] at c
    obtain ⟨ty, pos, aft, ho⟩ := gone_op4
    refine wpOpIn_step ho (fun K hK => ?_)
    unfold goneF
    go_simp
    refine hK _ _ ⟨b0, b1, b2, b3, true, b5, b6, b7, b8, false, x11, x12, x13, x14, v2, x16, x17, x18, rfl, rfl, { h with h4 := fun _ => rfl, o9 := fun e => by cases e }⟩
  | 5, hm =>
    obtain ⟨⟨c1, c2, c3⟩, _⟩ := cell_of3 h.bX
    obtain ⟨ty, pos, aft, ho⟩ := gone_op5
    refine wpOpIn_step ho (fun K hK => ?_)
    unfold goneF
    go_simp
    refine hK _ _ ⟨b0, b1, b2, b3, b4, true, b6, b7, b8, b9, x11, x12, x13, x14, x15, .agg #[.int .i32 r, .int .i64 wd, .bool wh], x17, x18, rfl, rfl, { h with h5 := fun _ => rfl }⟩
  | 6, hm =>
    have h5 := h.h5 (by simp [goneMay] at hm; exact hm.2)
    subst h5
    obtain ⟨ty, pos, aft, ho⟩ := gone_op6
    refine wpOpIn_step ho (fun K hK => ?_)
    unfold goneF
    go_simp
    have hw' := h.alloc hw (.cells #[.int .i32 r, .int .i64 wd, .bool wh] 32)
    refine hK _ _ ⟨b0, b1, b2, b3, b4, b5, true, b7, b8, b9, x11, x12, x13, x14, x15, .agg #[.int .i32 r, .int .i64 wd, .bool wh], .slice (some ⟨w.heap.size, 0, none⟩) 1 1, x18, rfl, rfl, { hw' with h6 := fun _ _ => ⟨w.heap.size, rfl, World.alloc_heap_new w _⟩ }⟩
  | 7, hm =>
    obtain ⟨⟨⟨rfl, rfl⟩, rfl⟩, rfl⟩ : ((b7 = false ∧ b4 = true) ∧ b6 = true) ∧ b3 = true := by simpa [goneMay] using hm
    obtain rfl := h.h4 rfl
    obtain ⟨g, rfl, hg⟩ := h.h6 rfl rfl
    have hr2 := h.r2 rfl
    obtain ⟨ty, pos, aft, ho⟩ := gone_op7
    refine wpOpIn_step ho (fun K hK => ?_)
    refine Eq.mpr (if_pos (c := Region.wanted _ _ = true) rfl) ?_
    refine wpIn_append w (.tmp 15) (.tmp 17) 36 rfl n0 32 k0 _ 3 24 Tryd.underlying36 hk0 hk1 hk2 hk3 rfl (by decide) _ k xs2 rfl hr2 ⟨g, 0, none⟩ 1 1 [.int .i32 r, .int .i64 wd, .bool wh] rfl rfl (cell_three w g _ _ _ _ hg) (by simp [Value.oneCell']) (by unfold maxLen; omega) (by omega) hw ?_
    intro y w' hown hgrow
    refine hK _ _ ⟨b0, b1, b2, true, true, b5, true, true, b8, b9, x11, x12, x13, x14, x15, x16, _, y, rfl, rfl, h.app2 hw hown hgrow hX⟩
  | 8, hm =>
    obtain ⟨⟨⟨rfl, rfl⟩, rfl⟩, rfl⟩ : ((b8 = false ∧ b0 = true) ∧ b3 = true) ∧ b7 = true := by simpa [goneMay] using hm
    have hr := h.r1' rfl
    obtain ⟨g, cap, rfl⟩ := ownsRow_succ hr
    have bP := h.bP
    simp only [Bool.false_eq_true, if_false] at bP
    have c := bP.cell
    have fz := bP.frozen
    obtain ⟨ty, pos, aft, ho⟩ := gone_op8
    refine wpOpIn_step ho (fun K hK => ?_)
    unfold goneF
    go_simp
    refine hK _ _ ⟨true, b1, b2, true, b4, b5, b6, true, true, b9, x11, x12, x13, _, x15, x16, x17, x18, rfl, rfl, ?_⟩
    have hgr := grownBy_setCell' w BP (.slice (some ⟨g, 0, none⟩) (k + 1) cap)
    exact { h with
      bP := bP.set _
      bS := h.bS.other (Ne.symm hPS) _
      bX := (hgr.block Bx (Array.getElem?_eq_some_iff.1 h.bX).1 (by simpa using hXP)).trans h.bX
      r1 := fun e => by cases e
      r1' := fun _ => hr.kept hgr (.inr (Ne.symm (bP.not_row (by decide) hr)))
      r2 := fun e => by cases e
      r2' := fun _ => (h.r2' rfl).kept hgr (by
        rcases (h.r2' rfl).2 with ⟨rfl, _⟩ | _
        · exact .inl rfl
        · exact .inr (Ne.symm (bP.not_row (by decide) (h.r2' rfl))))
      h2 := fun _ f => by cases f
      h6 := fun _ f => by cases f
      o8 := fun _ => ⟨rfl, rfl⟩
      bel := h.bel.setCell (p := ⟨BP, 0, none⟩) hP0 _
      kep := h.kep.trans (KeepsOthers.setCell _ _ _) }
  | 9, hm =>
    obtain ⟨⟨⟨rfl, rfl⟩, rfl⟩, rfl⟩ : ((b9 = false ∧ b4 = true) ∧ b7 = true) ∧ b8 = true := by simpa [goneMay] using hm
    have hr := h.r2' rfl
    obtain ⟨g, cap, rfl⟩ := ownsRow_succ hr
    have bS := h.bS
    simp only [Bool.false_eq_true, if_false] at bS
    have c := bS.cell
    have fz := bS.frozen
    obtain ⟨hq0, hq3⟩ := h.o8 rfl
    subst hq0 hq3
    obtain ⟨ty, pos, aft, ho⟩ := gone_op9
    refine wpOpIn_step ho (fun K hK => ?_)
    unfold goneF
    go_simp
    refine hK _ _ ⟨true, b1, b2, true, true, b5, b6, true, true, true, x11, x12, x13, x14, x15, x16, x17, _, rfl, rfl, ?_⟩
    have hgr := grownBy_setCell' w BS (.slice (some ⟨g, 0, none⟩) (k + 1) cap)
    exact { h with
      bP := h.bP.other hPS _
      bS := bS.set _
      bX := (hgr.block Bx (Array.getElem?_eq_some_iff.1 h.bX).1 (by simpa using hXS)).trans h.bX
      r1 := fun e => by cases e
      r1' := fun _ => (h.r1' rfl).kept hgr (.inr (Ne.symm (bS.not_row (by decide) (h.r1' rfl))))
      r2 := fun e => by cases e
      r2' := fun _ => hr.kept hgr (.inr (Ne.symm (bS.not_row (by decide) hr)))
      h2 := fun _ f => by cases f
      h6 := fun _ f => by cases f
      o9 := fun _ => ⟨rfl, rfl⟩
      bel := h.bel.setCell (p := ⟨BS, 0, none⟩) hS0 _
      kep := h.kep.trans (KeepsOthers.setCell _ _ _) }
  | _ + 10, hm => simp [goneMay] at hm
end
end Go.Proofs.YtcnbfpmognijcaaDoor
