/- The iterator that step.All hands back, as a contract for whoever ranges over it. -/
import Derived.RangeFuncNested
import Derived.RangeFuncBound
import Derived.RangeFuncCalls
import Derived.RangeFuncLeaves
import Derived.Shelf.Abstract
import Derived.Shelf.RegionOpen
import Derived.WalkKit
import Derived.OwnWalkIn
import Derived.TacticsInMore
import Derived.LoopNIn
import Derived.LoopIn
import Derived.Test.YtcnbfpmognijcaaDoorStep2
import Derived.Test.YtcnbfpmognijcaaDoorPure4
namespace Go.Proofs.YtcnbfpmognijcaaDoor
open Go.RowKit Go.Shelf Galley Go.Proofs.YtcnbfpmognijcaaDoorW.PrintWords
attribute [local go_sem] Oper.semAt_some

theorem next_at (w : World) (r : Nat) (s : ByteArray) (pos : Nat) (ty : TypeId) (h : w.heap[r]? = some (.stringIter s pos)) (hp : pos < s.size) :
    (Instr.next (.pointer (some ⟨r, 0, none⟩)) true ty).run Tryd.prog w = .ok (.tuple #[.bool true, .int .i64 pos, .int .i32 (rune s pos)]) (w.putObj r (.stringIter s (pos + width s pos))) := by
  have hd := decode_eq s pos hp
  have hlt := (Array.getElem?_eq_some_iff.1 h).1
  simp [Instr.next, getObj, setObj, Sem.run, h, hp, hd, goInt, Result.andThen, World.putObj]
theorem next_end (w : World) (r : Nat) (s : ByteArray) (pos : Nat) (ty : TypeId) (h : w.heap[r]? = some (.stringIter s pos)) (hp : ¬ pos < s.size) :
    (Instr.next (.pointer (some ⟨r, 0, none⟩)) true ty).run Tryd.prog w = .ok (.tuple #[.bool false]) w := by
  simp [Instr.next, getObj, Sem.run, h, hp]

/-- what a round keeps: the memory below n₀, and whatever is no cells -/
def Kept (n₀ : Nat) (A B : World) : Prop := Below n₀ A B ∧ KeepsWalks A B
/-- how many bytes the walk of block r has still to come -/
def strLeft (s : ByteArray) (r : Nat) (w : World) : Nat := match w.heap[r]? with | some (.stringIter _ pos) => s.size + 1 - pos | _ => 0
theorem strLeft_at {s : ByteArray} {r : Nat} {w : World} {pos : Nat} (h : w.heap[r]? = some (.stringIter s pos)) : strLeft s r w = s.size + 1 - pos := by unfold strLeft; rw [h]

/-- what comes to a round: the place, the step -/
def stepEncs (s : ByteArray) (p : Nat) : Array Value := #[.int .i64 p, stepV s p]

theorem stepV_extract (s : ByteArray) (p : Nat) (h : p < s.size) : stepV (s.extract p s.size) 0 = stepV s p ∧ 0 < (s.extract p s.size).size := by
  have hr := rl_extract s p s.size (Nat.le_refl _) (by omega)
  refine ⟨?_, by rw [extract_size s _ _ (by omega)]; omega⟩
  unfold stepV rune width whole long; rw [hr]

set_option maxRecDepth 100000 in
set_option maxHeartbeats 1000000 in
theorem all1_in (l B0 n₀ : Nat) (s : ByteArray) (W : World) (hc : W.cell? ⟨B0, 0, none⟩ = some (.string s)) (hB0 : B0 < n₀) (hg : BadLies W) (hgb : 0 < n₀) (hnW : n₀ ≤ W.heap.size)
    (J Jx : List Nat → World → Prop) (hJ : AbidesFrom W.heap.size J) (hJx : AbidesFrom W.heap.size Jx)
    (hY : ∀ pre x W1, J pre W1 → pre.length < (posL s).length → YieldAt Fence.wide 1 Tryd.prog l (stepEncs s x) W1 fun e W' =>
      (e = .returned (.bool true) ∧ J (pre ++ [x]) W' ∧ Kept n₀ W1 W') ∨ (e = .returned (.bool false) ∧ Jx (pre ++ [x]) W'))
    (h0 : J [] W) :
    CallsIn Fence.wide 2 Tryd.prog 32 #[.func (.yield l) #[] #[], .pointer (some ⟨B0, 0, none⟩)] W fun e W' => (∃ v, e = .returned v) ∧
      ((∃ ys, ys = posL s ∧ J ys W') ∨ (∃ pre, (pre ≠ [] ∧ pre <+: posL s) ∧ Jx pre W')) := by
  refine callsIn_of_wp Tryd.func32 rfl trivial ?_ rfl
  simp only [Tryd.ntmps32, List.size_toArray, List.length_cons, List.length_nil, Nat.reduceAdd, Nat.reduceSub, Array.replicate_succ, Array.replicate_zero, List.push_toArray, List.append_toArray, List.nil_append, List.cons_append]
  gi_wp2
  gi_loopw [3] (fun _ wr => ∃ (pre : List Nat) (pos : Nat), posL s = pre ++ posAt s pos ∧ wr.heap[W.heap.size]? = some (.stringIter s pos) ∧ J pre wr ∧ Below n₀ W wr ∧ (pre = [] → pos = 0)) (fun _ wr => strLeft s W.heap.size wr)
  case atStart => exact ⟨[], 0, (posAt_zero s).symm, World.iter_heap W s 0, hJ _ _ _ none h0 (World.grownBy_alloc W _ none) (fun r e => by cases e), (Below.refl _ W).alloc hnW _, fun _ => rfl⟩
  case round =>
    obtain ⟨pre, pos, hpre, hr, hJs, hbw, _⟩ := hrel
    have hBW := Lib.hid hbw
    have hPre := Lib.hid hpre
    have hR := Lib.hid hr
    have HG := Lib.hid hg
    have HC := Lib.hid hc
    have HJ := Lib.hid hJ
    have HJx := Lib.hid hJx
    have HY := Lib.hid hY
    clear hpre hbw hg hJ hJx hY
    by_cases hp : pos < s.size
    · have hnx := fun ty => next_at wr W.heap.size s pos ty hr hp
      have hlt := (Array.getElem?_eq_some_iff.1 hr).1
      obtain ⟨W2, hW2⟩ : ∃ W2, W2 = wr.putObj W.heap.size (.stringIter s (pos + width s pos)) := ⟨_, rfl⟩
      rw [← hW2] at hnx
      have hgr : wr.grownBy W2 (some W.heap.size) := by rw [hW2]; exact grownBy_putObj' wr W.heap.size _
      have hr2 : W2.heap[W.heap.size]? = some (.stringIter s (pos + width s pos)) := by rw [hW2]; exact World.putObj_heap_same hlt
      have hB2 : Below n₀ W W2 := hBW.out.grown hgr (Nat.le_trans hnW hBW.out.size) (fun k e => by cases e; exact hnW)
      have hJ2 : J pre W2 := HJ.out _ _ _ _ hJs hgr (fun r e => by cases e; exact ⟨Nat.le_refl _, _, hr, rfl⟩)
      have hc2 : W2.cell? ⟨B0, 0, none⟩ = some (.string s) := (hB2.cell (p := ⟨B0, 0, none⟩) hB0).trans HC.out
      obtain ⟨k1, k2⟩ := stepV_extract s pos hp
      have K1 := Lib.hid k1
      have hlen : pre.length < (posL s).length := by rw [hPre.out, List.length_append, posAt_step s pos hp]; simp
      clear k1 hc hr hJs hW2
      have hg2 : BadLies W2 := HG.out.below hB2 hgb
      gi_wp2
      refine ⟨trivial, (callsIn_wide.2 (first_calls _ W2 hg2 k2)).mono ?_⟩
      rintro e W3 ⟨rfl, hb3⟩
      rw [K1.out]
      have hB3 : Below n₀ W W3 := hB2.trans (hb3.mono (Nat.le_trans hnW (Nat.le_trans (Nat.le_of_lt hlt) hgr.size)))
      have hr3 : W3.heap[W.heap.size]? = some (.stringIter s (pos + width s pos)) := (hb3.block _ (Array.getElem?_eq_some_iff.1 hr2).1).trans hr2
      have hJ3 : J pre W3 := HJ.out _ _ _ none hJ2 (grown_of_below hb3 none) (fun r e => by cases e)
      obtain ⟨fn, tmps, assign, body, hy, hRd⟩ := HY.out pre pos W3 hJ3 hlen
      dsimp only [stepEncs] at hy
      clear hc2 hr2 hJ2 hg2 hB2 hb3 hJ3 hnx hgr
      gi_wp2
      refine hRd.mono ?_
      rintro e W4 (⟨rfl, hJ4, hk4, hw4⟩ | ⟨rfl, hJx4⟩)
      · have hr4 := hw4.same _ _ hr3 rfl
        gi_wp2
        go_roundw
        case rel =>
          refine ⟨pre ++ [pos], pos + width s pos, ?_, hr4, hJ4, hB3.trans hk4, fun h => by simp at h⟩
          rw [hPre.out, posAt_step s pos hp]; simp
        case measure =>
          have := width_pos s pos
          rw [strLeft_at hr4, strLeft_at hR.out]; omega
      · gi_wp2
        refine bodyPost_ret (results_none rfl _ _ _) rfl ?_
        refine ⟨⟨_, rfl⟩, .inr ⟨pre ++ [pos], ⟨by simp, posAt s (pos + width s pos), ?_⟩, hJx4⟩⟩
        rw [hPre.out, posAt_step s pos hp]; simp
    · have hnx := fun ty => next_end wr W.heap.size s pos ty hr hp
      gi_wp2
      go_end0
      refine ⟨⟨_, rfl⟩, .inl ⟨pre, ?_, hJs⟩⟩
      rw [hPre.out, posAt_end s pos hp]; simp

/-- the contract of what step.All hands back, wherever it lies -/
theorem all_stops (B0 n₀ : Nat) (s : ByteArray) (w : World) (hc : w.cell? ⟨B0, 0, none⟩ = some (.string s)) (hB0 : B0 < n₀) (hg : BadLies w) (hgb : 0 < n₀) (hn : n₀ ≤ w.heap.size) :
    SeqStopsK Fence.wide 2 Tryd.prog 32 #[.pointer (some ⟨B0, 0, none⟩)] (stepEncs s) (Kept n₀) (fun ys => ys = posL s) (fun pre => pre ≠ [] ∧ pre <+: posL s) (posL s).length w := fun l J Jx W hW hJ hJx hY h0 =>
  all1_in l B0 n₀ s W ((hW.cell (p := ⟨B0, 0, none⟩) (Nat.lt_of_lt_of_le hB0 hn)).trans hc) hB0 (hg.below hW hg.lt) hgb (Nat.le_trans hn hW.size) J Jx hJ hJx hY h0

set_option maxHeartbeats 400000 in
theorem All_calls (A : Option Addr) (c : Nat) (s : ByteArray) (w : World) (hb : Byt w A c s) :
    Calls Tryd.prog 12 #[.slice A s.size c] w fun e w' => e = .returned (.func (.func 32) #[] #[.pointer (some ⟨w.heap.size, 0, none⟩)]) ∧ w' = w.alloc (.cells #[.string s] 9) := by
  have hstr := hb.str
  clear hb
  go_enter Tryd.func12, Tryd.ntmps12
  go_wp2_with fail
  go_ret
  exact ⟨rfl, rfl⟩
theorem kept_t {n₀ : Nat} {A B C : World} (h : Kept n₀ A B) (k : Kept n₀ B C) : Kept n₀ A C := ⟨h.1.trans k.1, h.2.trans k.2⟩
end Go.Proofs.YtcnbfpmognijcaaDoor
