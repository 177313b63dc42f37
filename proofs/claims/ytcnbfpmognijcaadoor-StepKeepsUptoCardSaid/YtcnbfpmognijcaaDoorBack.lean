/- The iterator that step.Back hands back, as a contract for whoever ranges over it. -/
import Derived.Test.YtcnbfpmognijcaaDoorGave
import Derived.Test.YtcnbfpmognijcaaDoorPure5
import Derived.Test.YtcnbfpmognijcaaDoorTilesPure
import Derived.Laws.IdiomStrings
namespace Go.Proofs.YtcnbfpmognijcaaDoor
open Go.RowKit Go.Shelf Galley Go.Proofs.YtcnbfpmognijcaaDoorW.PrintWords
attribute [local go_sem] Oper.semAt_some

theorem Before_okB (A : Option Addr) (c : Nat) (s : ByteArray) (p : Int) (w : World) (hg : BadLies w) (hb : Byt w A c s) (h0 : 1 ≤ p) (hp : p ≤ s.size) (hi : insK s p.toNat = 0) :
    Calls Tryd.prog 19 #[.slice A s.size c, .int .i64 p] w fun e w' => e = .returned (.tuple #[stepV s (begP s p), .int .i64 0]) ∧ Below w.heap.size w w' := by
  by_cases he : p = s.size
  · exact Before_end A c s p w hg hb h0 he
  · exact Before_mid A c s p w hg hb h0 (by omega) hi

/-- '[]byte(s)': a row of bytes of the call's own -/
theorem bytes_conv (s : ByteArray) (w : World) (hs : s.size ≤ 140737488355328) :
    ∃ c W, (convert 9 22 (.string s)).run Tryd.prog w = .ok (.slice (some ⟨w.heap.size, 0, none⟩) s.size c) W ∧ Byt W (some ⟨w.heap.size, 0, none⟩) c s ∧ Below w.heap.size w W ∧ W.heap.size = w.heap.size + 1 := by
  refine ⟨_, _, run_bytes_of_string (P := Tryd.prog) w 9 22 5 s Tryd.underlying9 Tryd.underlying22 Tryd.underlying5, ?_, ((Below.refl _ w).drew).alloc (by simp) _, by simp⟩
  refine byt_new s (alloc_drew_at w _) (grownCap_ge w s.size 0 5) hs ?_
  unfold bytesRow bytesOf
  rw [Array.toList_append, List.take_append_of_le_length (by simp)]
  rw [List.take_of_length_le (by simp)]
  simp

set_option maxRecDepth 100000 in
set_option maxHeartbeats 1000000 in
theorem back1_in (l B0 n₀ : Nat) (A : Option Addr) (c : Nat) (s : ByteArray) (W : World) (hc : W.cell? ⟨B0, 0, none⟩ = some (.slice A s.size c)) (hB0 : B0 < n₀) (hb : ∀ W', Below n₀ W W' → Byt W' A c s) (hg : BadLies W) (hgb : 0 < n₀) (hnW : n₀ ≤ W.heap.size)
    (J Jx : List Nat → World → Prop) (hJ : AbidesFrom W.heap.size J)
    (hY : ∀ pre x W1, J pre W1 → pre.length < (posL s).length → YieldAt Fence.wide 1 Tryd.prog l (stepEncs s x) W1 fun e W' =>
      (e = .returned (.bool true) ∧ J (pre ++ [x]) W' ∧ Kept n₀ W1 W') ∨ (e = .returned (.bool false) ∧ Jx (pre ++ [x]) W'))
    (h0 : J [] W) :
    CallsIn Fence.wide 2 Tryd.prog 38 #[.func (.yield l) #[] #[], .pointer (some ⟨B0, 0, none⟩)] W fun e W' => (∃ v, e = .returned v) ∧
      ((∃ ys, ys = (posL s).reverse ∧ J ys W') ∨ (∃ pre, (pre ≠ [] ∧ pre <+: (posL s).reverse) ∧ Jx pre W')) := by
  have hsm := (hb W (Below.refl _ _)).small
  refine callsIn_of_wp Tryd.func38 rfl trivial ?_ rfl
  simp only [Tryd.ntmps38, List.size_toArray, List.length_cons, List.length_nil, Nat.reduceAdd, Nat.reduceSub, Array.replicate_succ, Array.replicate_zero, List.push_toArray, List.append_toArray, List.nil_append, List.cons_append]
  have HBy := Lib.hid hb
  clear hb
  gi_wp2
  gi_loopw [3] (fun i wr => ∃ pos : Nat, i = .int .i64 pos ∧ pos ≤ s.size ∧ insK s pos = 0 ∧ J (posAt s pos).reverse wr ∧ Below n₀ W wr) (fun i _ => (intOf i).toNat)
  case atStart => exact ⟨s.size, rfl, Nat.le_refl _, insK_zero s _ (ins_end s), by rw [posAt_end s _ (Nat.lt_irrefl _)]; exact h0, Below.refl _ _⟩
  case round =>
    obtain ⟨pos, rfl, hple, hik, hJs, hbw⟩ := hrel
    have HBW := Lib.hid hbw
    have HI := Lib.hid hik
    have HG := Lib.hid hg
    have HJ := Lib.hid hJ
    have HY := Lib.hid hY
    have hc1 : wr.cell? ⟨B0, 0, none⟩ = some (.slice A s.size c) := (hbw.cell (p := ⟨B0, 0, none⟩) hB0).trans hc
    clear hbw hg hJ hY hc hik
    by_cases hp : 0 < pos
    · obtain ⟨q1, q2, q3⟩ := edge_back s pos hp (not_ins s pos HI.out)
      have hbeg : begP s (pos : Int) = floorP s (pos - 1) := by unfold begP; rw [show ((pos : Int) - 1).toNat = pos - 1 by omega]
      obtain ⟨q, hq⟩ : ∃ q, floorP s (pos - 1) = q := ⟨_, rfl⟩
      rw [hq] at q1 q2 q3 hbeg
      have HQ := Lib.hid q1
      have HBg := Lib.hid hbeg
      have hpos : posAt s q = q :: posAt s pos := by rw [posAt_step s q (by omega), q3]
      obtain ⟨f, hf⟩ := posL_edge s q q (Nat.le_refl _) (by omega) q1
      have HF := Lib.hid hf
      have HPs := Lib.hid hpos
      have hlen : (posAt s pos).reverse.length < (posL s).length := by rw [hf, hpos]; simp; omega
      clear hbeg hq q1 hf hpos
      gi_wp2
      refine ⟨trivial, (callsIn_wide.2 (Before_okB A c s pos wr (HG.out.below HBW.out hgb) (HBy.out _ HBW.out) (by omega) (by omega) (by rw [Int.toNat_natCast]; exact HI.out))).mono ?_⟩
      rw [HBg.out]
      rintro e W3 ⟨rfl, hb3⟩
      obtain ⟨r, hr⟩ : ∃ r : Int, (rune s q : Int) = r := ⟨_, rfl⟩
      obtain ⟨wd, hwd⟩ : ∃ wd, width s q = wd := ⟨_, rfl⟩
      obtain ⟨wh, hwh⟩ : ∃ wh, whole s q = wh := ⟨_, rfl⟩
      have hw4 := width_le s q
      rw [hwd] at q3 hw4
      have e : (q : Int) = (pos : Int) - wd := by omega
      obtain ⟨W4, hW4⟩ : ∃ W4, W4 = W3.alloc (.cells #[.int .i32 r, .int .i64 wd, .bool wh] 32) := ⟨_, rfl⟩
      have N4 : W4.heap[W3.heap.size]? = some (.cells #[.int .i32 r, .int .i64 wd, .bool wh] 32) := by rw [hW4]; exact alloc_at W3 _
      have hb4 : Below wr.heap.size wr W4 := by rw [hW4]; exact hb3.alloc hb3.size _
      have hB4 : Below n₀ W W4 := HBW.out.trans (hb4.mono (Nat.le_trans hnW HBW.out.size))
      have hJ4 : J (posAt s pos).reverse W4 := HJ.out _ _ _ none hJs (grown_of_below hb4 none) (fun r e => by cases e)
      obtain ⟨⟨m1, m2, m3⟩, _⟩ := cell_of3 N4
      obtain ⟨fn, tmps, assign, body, hy, hRd⟩ := HY.out _ q W4 hJ4 hlen
      simp only [stepEncs, stepV, hr, hwd, hwh] at hy
      rw [e] at hy
      have HW4 := Lib.hid hW4
      have HWd := Lib.hid hwd
      have HB4 := Lib.hid hB4
      simp only [stepV, hr, hwd, hwh]
      clear hr hwh hwd N4 hb4 hB4 hJ4 hb3 hJs hW4 hlen hc1
      gi_wp2_with (rw [← HW4.out])
      refine hRd.mono ?_
      rintro e5 W5 (⟨rfl, hJ5, hk5, _⟩ | ⟨rfl, hJx5⟩)
      · gi_wp2
        go_roundw
        case rel =>
          refine ⟨q, by rw [e], by omega, insK_zero s q HQ.out, ?_, HB4.out.trans hk5⟩
          rw [HPs.out, List.reverse_cons]; exact hJ5
        case measure => simp [intOf]; omega
      · gi_wp2
        refine bodyPost_ret (results_none rfl _ _ _) rfl ?_
        refine ⟨⟨_, rfl⟩, .inr ⟨(posAt s pos).reverse ++ [q], ⟨by simp, f.reverse, ?_⟩, hJx5⟩⟩
        rw [HF.out, HPs.out]; simp
    · obtain rfl : pos = 0 := by omega
      have h0l : posAt s 0 = posL s := posAt_zero s
      rw [h0l] at hJs
      gi_wp2
      go_end0
      exact ⟨⟨_, rfl⟩, .inl ⟨_, rfl, hJs⟩⟩

/-- the contract of what step.Back hands back, wherever it lies -/
theorem back_stops (B0 n₀ : Nat) (A : Option Addr) (c : Nat) (s : ByteArray) (w : World) (hc : w.cell? ⟨B0, 0, none⟩ = some (.slice A s.size c)) (hB0 : B0 < n₀) (hb : ∀ W', Below n₀ w W' → Byt W' A c s) (hg : BadLies w) (hgb : 0 < n₀) (hn : n₀ ≤ w.heap.size) :
    SeqStopsK Fence.wide 2 Tryd.prog 38 #[.pointer (some ⟨B0, 0, none⟩)] (stepEncs s) (Kept n₀) (fun ys => ys = (posL s).reverse) (fun pre => pre ≠ [] ∧ pre <+: (posL s).reverse) (posL s).length w := fun l J Jx W hW hJ _ hY h0 =>
  back1_in l B0 n₀ A c s W ((hW.cell (p := ⟨B0, 0, none⟩) (Nat.lt_of_lt_of_le hB0 hn)).trans hc) hB0 (fun W' h => hb W' ((hW.mono hn).trans h)) (hg.below hW hg.lt) hgb (Nat.le_trans hn hW.size) J Jx hJ hY h0

set_option maxHeartbeats 400000 in
/-- step.Back: the iterator's bytes are a row of the call's own -/
theorem Back_calls (A : Option Addr) (c : Nat) (s : ByteArray) (w : World) (hb : Byt w A c s) :
    Calls Tryd.prog 26 #[.slice A s.size c] w fun e w' => ∃ A' c' B0, e = .returned (.func (.func 38) #[] #[.pointer (some ⟨B0, 0, none⟩)]) ∧ w'.cell? ⟨B0, 0, none⟩ = some (.slice A' s.size c') ∧ Byt w' A' c' s ∧ w.heap.size ≤ B0 ∧ (∃ g, A' = some ⟨g, 0, none⟩ ∧ w.heap.size ≤ g) ∧ Below w.heap.size w w' := by
  have hstr := hb.str
  obtain ⟨c', W1, hrun, hby, hbel, hsz⟩ := bytes_conv s w hb.small
  have HBy := Lib.hid hby
  have HBel := Lib.hid hbel
  have HSz := Lib.hid hsz
  clear hb hby hbel hsz
  go_enter Tryd.func26, Tryd.ntmps26
  go_wp2_with fail
  go_ret
  have hb2 : Below W1.heap.size W1 (W1.alloc (.cells #[.slice (some ⟨w.heap.size, 0, none⟩) s.size c'] 22)) := (Below.refl _ W1).alloc (Nat.le_refl _) _
  exact ⟨_, c', W1.heap.size, rfl, by simp, HBy.out.below hb2, HBel.out.size, ⟨_, rfl, Nat.le_refl _⟩, HBel.out.trans (hb2.mono HBel.out.size)⟩

/-- gone(step.Back(b)) -/
theorem gone_back (B0 : Nat) (A : Option Addr) (c : Nat) (s : ByteArray) (hs : s.size ≤ 1073741824) (w : World) (hc : w.cell? ⟨B0, 0, none⟩ = some (.slice A s.size c)) (hb : Byt w A c s) (hg : BadLies w) :
    Calls Tryd.prog 14 #[.func (.func 38) #[] #[.pointer (some ⟨B0, 0, none⟩)]] w fun e W' => ∃ A1 c1 A2 c2, e = .returned (.tuple #[.slice A1 (posL s).length c1, .slice A2 (posL s).length c2]) ∧ Gave W' s (posL s).reverse A1 A2 ∧ Below w.heap.size w W' := by
  have hlen : (posL s).reverse.length = (posL s).length := by simp
  have hst := back_stops B0 w.heap.size A c s w hc (World.block_lt_of_cell? w _ hc) (fun W' h => hb.below h) hg hg.lt (Nat.le_refl _)
  rw [← hlen] at hst
  refine callsIn_wide.1 ((gone_in 38 #[.pointer (some ⟨B0, 0, none⟩)] (enters_of Tryd.func38 (by kernel_rfl) rfl) s w.heap.size (posL s).reverse (by rw [hlen]; have := posL_length s; omega) _ w hst (Nat.le_refl _)).mono ?_)
  rintro e W' ⟨v1, v2, rfl, h1, h2, hb⟩
  obtain ⟨A1, c1, A2, c2, rfl, rfl, hG⟩ := gave_of h1 h2
  rw [hlen]
  exact ⟨A1, c1, A2, c2, rfl, hG, hb⟩
end Go.Proofs.YtcnbfpmognijcaaDoor
