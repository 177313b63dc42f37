/- The iterator that step.All hands back, where its box lies behind what a round writes. -/
import Derived.Test.YtcnbfpmognijcaaDoorWalkB
namespace Go.Proofs.YtcnbfpmognijcaaDoor
open Go.RowKit Go.Shelf Galley Go.Proofs.YtcnbfpmognijcaaDoorW.PrintWords
attribute [local go_sem] Oper.semAt_some

theorem no_cell {W : World} {l i : Nat} {o : Obj} (ho : W.heap[l]? = some o) (hc : o.isCells = false) : W.cell? ⟨l, i, none⟩ = none := by
  cases o <;> simp_all [World.cell?, Obj.isCells]
/-- what a round keeps: the memory below n₀, whatever is no cells, and the string in block B0 -/
def KeptS (n₀ B0 : Nat) (A B : World) : Prop := Kept n₀ A B ∧ ∀ s, A.cell? ⟨B0, 0, none⟩ = some (.string s) → B.cell? ⟨B0, 0, none⟩ = some (.string s)
theorem keptS_t {n₀ B0 : Nat} {A B C : World} (h : KeptS n₀ B0 A B) (k : KeptS n₀ B0 B C) : KeptS n₀ B0 A C := ⟨kept_t h.1 k.1, fun s hs => k.2 s (h.2 s hs)⟩
theorem keptS_b {n₀ B0 : Nat} {w : World} (h : n₀ ≤ w.heap.size) (W : World) (l : Nat) (o o' : Obj) (hl : w.heap.size ≤ l) (ho : W.heap[l]? = some o) (hc : o.isCells = false) (hw : o.isWalk = false) : KeptS n₀ B0 W (W.putObj l o') := by
  refine ⟨keptK_b h W l o o' hl ho hc hw, fun s hs => ?_⟩
  by_cases e : l = B0
  · subst e; rw [no_cell ho hc] at hs; cases hs
  · refine (World.cell?_of_block ?_).trans hs
    exact (grownBy_putObj' W l o').block B0 (World.block_lt_of_cell? W _ hs) (fun e' => e (by cases e'; rfl))

set_option maxRecDepth 100000 in
set_option maxHeartbeats 1000000 in
theorem all1_at (l B0 n₀ : Nat) (s : ByteArray) (W : World) (hc : W.cell? ⟨B0, 0, none⟩ = some (.string s)) (hg : BadLies W) (hgb : 0 < n₀) (hnW : n₀ ≤ W.heap.size)
    (J Jx : List Nat → World → Prop) (hJ : AbidesFrom W.heap.size J) (hJx : AbidesFrom W.heap.size Jx)
    (hY : ∀ pre x W1, J pre W1 → pre.length < (posL s).length → YieldAt Fence.wide 1 Tryd.prog l (stepEncs s x) W1 fun e W' =>
      (e = .returned (.bool true) ∧ J (pre ++ [x]) W' ∧ KeptS n₀ B0 W1 W') ∨ (e = .returned (.bool false) ∧ Jx (pre ++ [x]) W'))
    (h0 : J [] W) :
    CallsIn Fence.wide 2 Tryd.prog 32 #[.func (.yield l) #[] #[], .pointer (some ⟨B0, 0, none⟩)] W fun e W' => (∃ v, e = .returned v) ∧
      ((∃ ys, ys = posL s ∧ J ys W') ∨ (∃ pre, (pre ≠ [] ∧ pre <+: posL s) ∧ Jx pre W')) := by
  refine callsIn_of_wp Tryd.func32 rfl trivial ?_ rfl
  simp only [Tryd.ntmps32, List.size_toArray, List.length_cons, List.length_nil, Nat.reduceAdd, Nat.reduceSub, Array.replicate_succ, Array.replicate_zero, List.push_toArray, List.append_toArray, List.nil_append, List.cons_append]
  gi_wp2
  gi_loopw [3] (fun _ wr => ∃ (pre : List Nat) (pos : Nat), posL s = pre ++ posAt s pos ∧ wr.heap[W.heap.size]? = some (.stringIter s pos) ∧ J pre wr ∧ Below n₀ W wr ∧ wr.cell? ⟨B0, 0, none⟩ = some (.string s)) (fun _ wr => strLeft s W.heap.size wr)
  case atStart => exact ⟨[], 0, (posAt_zero s).symm, World.iter_heap W s 0, hJ _ _ _ none h0 (World.grownBy_alloc W _ none) (fun r e => by cases e), (Below.refl _ W).alloc hnW _, cell_stays (((Below.refl _ W).alloc (Nat.le_refl _) _)) hc⟩
  case round =>
    obtain ⟨pre, pos, hpre, hr, hJs, hbw, hcw⟩ := hrel
    have hBW := Lib.hid hbw
    have hPre := Lib.hid hpre
    have hR := Lib.hid hr
    have HG := Lib.hid hg
    have HC := Lib.hid hcw
    have HJ := Lib.hid hJ
    have HJx := Lib.hid hJx
    have HY := Lib.hid hY
    clear hpre hbw hg hJ hJx hY hcw
    by_cases hp : pos < s.size
    · have hnx := fun ty => next_at wr W.heap.size s pos ty hr hp
      have hlt := (Array.getElem?_eq_some_iff.1 hr).1
      obtain ⟨W2, hW2⟩ : ∃ W2, W2 = wr.putObj W.heap.size (.stringIter s (pos + width s pos)) := ⟨_, rfl⟩
      rw [← hW2] at hnx
      have hgr : wr.grownBy W2 (some W.heap.size) := by rw [hW2]; exact grownBy_putObj' wr W.heap.size _
      have hr2 : W2.heap[W.heap.size]? = some (.stringIter s (pos + width s pos)) := by rw [hW2]; exact World.putObj_heap_same hlt
      have hB2 : Below n₀ W W2 := hBW.out.grown hgr (Nat.le_trans hnW hBW.out.size) (fun k e => by cases e; exact hnW)
      have hJ2 : J pre W2 := HJ.out _ _ _ _ hJs hgr (fun r e => by cases e; exact ⟨Nat.le_refl _, _, hr, rfl⟩)
      have hc2 : W2.cell? ⟨B0, 0, none⟩ = some (.string s) := by
        refine (World.cell?_of_block ((hgr.block B0 (World.block_lt_of_cell? wr _ HC.out) (fun e => ?_)))).trans HC.out
        cases e
        have := HC.out
        rw [no_cell hr rfl] at this; cases this
      obtain ⟨k1, k2⟩ := stepV_extract s pos hp
      have K1 := Lib.hid k1
      have hlen : pre.length < (posL s).length := by rw [hPre.out, List.length_append, posAt_step s pos hp]; simp
      clear k1 hc hr hJs hW2
      have hg2 : BadLies W2 := HG.out.below hB2 hgb
      gi_wp2
      refine ⟨trivial, (callsIn_wide.2 (first_calls _ W2 hg2 k2)).mono ?_⟩
      rintro e W3 ⟨rfl, hb3⟩
      rw [K1.out]
      have hB3 : Below n₀ W W3 := hB2.trans (hb3.mono (Nat.le_trans hnW (Nat.le_trans (Nat.le_of_lt hlt) hgr.size)))
      have hr3 : W3.heap[W.heap.size]? = some (.stringIter s (pos + width s pos)) := (hb3.block _ (Array.getElem?_eq_some_iff.1 hr2).1).trans hr2
      have hJ3 : J pre W3 := HJ.out _ _ _ none hJ2 (grown_of_below hb3 none) (fun r e => by cases e)
      obtain ⟨fn, tmps, assign, body, hy, hRd⟩ := HY.out pre pos W3 hJ3 hlen
      dsimp only [stepEncs] at hy
      have hc3 := Lib.hid (cell_stays hb3 hc2)
      clear hc2 hr2 hJ2 hg2 hB2 hb3 hJ3 hnx hgr
      gi_wp2
      refine hRd.mono ?_
      rintro e W4 (⟨rfl, hJ4, ⟨hk4, hw4⟩, hs4⟩ | ⟨rfl, hJx4⟩)
      · have hr4 := hw4.same _ _ hr3 rfl
        gi_wp2
        go_roundw
        case rel =>
          refine ⟨pre ++ [pos], pos + width s pos, ?_, hr4, hJ4, hB3.trans hk4, hs4 _ hc3.out⟩
          rw [hPre.out, posAt_step s pos hp]; simp
        case measure =>
          have := width_pos s pos
          rw [strLeft_at hr4, strLeft_at hR.out]; omega
      · gi_wp2
        refine bodyPost_ret (results_none rfl _ _ _) rfl ?_
        refine ⟨⟨_, rfl⟩, .inr ⟨pre ++ [pos], ⟨by simp, posAt s (pos + width s pos), ?_⟩, hJx4⟩⟩
        rw [hPre.out, posAt_step s pos hp]; simp
    · have hnx := fun ty => next_end wr W.heap.size s pos ty hr hp
      gi_wp2
      go_end0
      refine ⟨⟨_, rfl⟩, .inl ⟨pre, ?_, hJs⟩⟩
      rw [hPre.out, posAt_end s pos hp]; simp


/-- the contract of what step.All hands back, where its box may lie anywhere -/
theorem all_at (B0 n₀ : Nat) (s : ByteArray) (w : World) (hc : w.cell? ⟨B0, 0, none⟩ = some (.string s)) (hg : BadLies w) (hgb : 0 < n₀) (hn : n₀ ≤ w.heap.size) :
    SeqStopsK Fence.wide 2 Tryd.prog 32 #[.pointer (some ⟨B0, 0, none⟩)] (stepEncs s) (KeptS n₀ B0) (fun ys => ys = posL s) (fun pre => pre ≠ [] ∧ pre <+: posL s) (posL s).length w := fun l J Jx W hW hJ hJx hY h0 =>
  all1_at l B0 n₀ s W (cell_stays hW hc) (hg.below hW hg.lt) hgb (Nat.le_trans hn hW.size) J Jx hJ hJx hY h0
end Go.Proofs.YtcnbfpmognijcaaDoor
