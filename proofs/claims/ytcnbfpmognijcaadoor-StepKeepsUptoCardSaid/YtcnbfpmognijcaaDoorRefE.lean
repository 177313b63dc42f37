/- Contracts of the reference's Edges, Steps. -/
import Derived.Test.YtcnbfpmognijcaaDoorRef5
import Derived.Test.YtcnbfpmognijcaaDoorBack
import Derived.Test.YtcnbfpmognijcaaDoorPure6
namespace Go.Proofs.YtcnbfpmognijcaaDoor
open Go.RowKit Galley Go.Proofs.YtcnbfpmognijcaaDoorW.PrintWords

set_option maxHeartbeats 1000000 in
theorem refEdges_calls (A : Option Addr) (c : Nat) (s : ByteArray) (w : World) (hb : Byt w A c s) (hs : s.size ≤ 1073741824) :
    Calls Tryd.prog 28 #[.slice A s.size c] w fun e w' => ∃ v, e = .returned v ∧ w'.ownsRow w.heap.size 3 1 v (edgesTo s (s.size + 1)).length ((edgesTo s (s.size + 1)).map placeV) ∧ Below w.heap.size w w' := by
  obtain ⟨j0, hj0, hj1, hj2, hj3⟩ := info_parts infoInt
  have HB := Lib.hid hb
  clear hb
  go_enter Tryd.func28, Tryd.ntmps28
  go_wp2_with fail
  go_loopw [3, 4] (fun v i wr => ∃ p : Nat, i = .int .i64 p ∧ p ≤ s.size + 1 ∧ wr.ownsRow w.heap.size 3 1 v (edgesTo s p).length ((edgesTo s p).map placeV) ∧ Below w.heap.size w wr) (fun _ i _ => s.size + 1 - (intOf i).toNat)
  case atStart => exact ⟨0, rfl, Nat.zero_le _, World.ownsRow_nil _ _ _ _, Below.refl _ _⟩
  case round =>
    obtain ⟨p, rfl, hp, hrow, hbw⟩ := hrel
    have hle := edgesTo_length s p
    have HW := Lib.hid hbw
    have HRow := Lib.hid hrow
    clear hbw hrow
    by_cases hlt : p ≤ s.size
    · by_cases hi : insK s p = 0
      · have HI : Hid (insB s p = false) := insB_eq s p false (by simp [hi])
        have HE := Lib.hid (edgesTo_in s p hi)
        clear hi
        go_wp2_with (first
          | (go_at_call 36; (with_reducible refine (refInside_calls A c s p _ (HB.out.below HW.out) (by omega) (by omega)).mono ?_); rw [HI.out]; rintro e w' ⟨rfl, rfl⟩)
          | (at_builtin; refine wpList_append_own _ rfl (.tmp 15) (.tmp 17) 35 rfl w.heap.size 3 j0 (.int .i64 0) 1 8 Tryd.underlying35 hj0 hj1 hj2 hj3 rfl (by decide) u3 _ _ rfl (HRow.out.alloc _) ⟨wr.heap.size, 0, none⟩ 1 1 [.int .i64 p] rfl rfl (cell_one _ _ _ (by simp)) (by simp [Value.oneCell']) (by unfold maxLen; omega) (by omega) (by have := HW.out.size; simp; omega) ?_; intro v' w1 hown' hgrow _))
        go_roundw
        case rel =>
          refine ⟨p + 1, by go_num, by omega, ?_, below_over (HRow.out.alloc _) hgrow (HW.out.alloc HW.out.size _) (by have := HW.out.size; simp; omega)⟩
          rw [HE.out]
          simpa [placeV] using hown'
        case measure => simp [intOf]; omega
      · have HI : Hid (insB s p = true) := insB_eq s p true (by simp [hi])
        have HE := Lib.hid (edgesTo_out s p hi)
        clear hi
        go_wp2_with (go_at_call 36; (with_reducible refine (refInside_calls A c s p _ (HB.out.below HW.out) (by omega) (by omega)).mono ?_); rw [HI.out]; rintro e w' ⟨rfl, rfl⟩)
        go_roundw
        case rel => exact ⟨p + 1, by go_num, by omega, by rw [HE.out]; exact HRow.out, HW.out⟩
        case measure => simp [intOf]; omega
    · obtain rfl : p = s.size + 1 := by omega
      go_wp2_with fail
      go_ret
      exact ⟨_, rfl, HRow.out, HW.out⟩

theorem posAt_lt (s : ByteArray) : ∀ (f p : Nat), s.size ≤ p + f → ∀ q, q ∈ posAt s p → q < s.size
  | 0, p, hf, q, hq => by rw [posAt_end s p (by omega)] at hq; simp at hq
  | f + 1, p, hf, q, hq => by
    by_cases h : p < s.size
    · rw [posAt_step s p h] at hq
      have := width_pos s p
      rcases List.mem_cons.1 hq with rfl | hq
      · exact h
      · exact posAt_lt s f _ (by omega) q hq
    · rw [posAt_end s p h] at hq; simp at hq
theorem posL_lt (s : ByteArray) (k q : Nat) (h : (posL s)[k]? = some q) : q < s.size := posAt_lt s s.size 0 (by omega) q (List.mem_of_getElem? h)
/-- the element of a row of places -/
theorem place_at {w : World} {base n : Nat} {v : Value} {l : List Nat} (h : w.ownsRow base 3 1 v n (l.map placeV)) : ∃ A c, v = .slice A n c ∧ ∀ j q : Nat, l[j]? = some q → ∃ g, A = some ⟨g, 0, none⟩ ∧ w.cell? ⟨g, j, none⟩ = some (.int .i64 q) := by
  obtain ⟨A, c, e, g⟩ := own_cells h
  exact ⟨A, c, e, fun j q hj => g j _ (by rw [List.getElem?_map, hj]; rfl)⟩

set_option maxHeartbeats 1000000 in
theorem refSteps_calls (A : Option Addr) (c : Nat) (s : ByteArray) (w : World) (hb : Byt w A c s) (hs : s.size ≤ 1073741824) :
    Calls Tryd.prog 27 #[.slice A s.size c] w fun e w' => ∃ v, e = .returned v ∧ w'.ownsRow w.heap.size 32 3 v (posL s).length ((posL s).flatMap (stepCells s)) ∧ Below w.heap.size w w' := by
  obtain ⟨k0, hk0, hk1, hk2, hk3⟩ := info_parts infoStep
  have hps := posL_length s
  have HB := Lib.hid hb
  clear hb
  go_enter Tryd.func27, Tryd.ntmps27
  go_wp2_with fail
  refine (refEdges_calls A c s _ HB.out hs).mono ?_
  rintro e w1 ⟨v, rfl, hrow, h1⟩
  rw [edges_all, List.length_append, List.length_singleton] at hrow
  obtain ⟨A1, c1, rfl, hget⟩ := place_at hrow
  have H1 := Lib.hid h1
  have HG := Lib.hid hget
  clear h1 hrow hget
  go_wp2_with fail
  go_loopw [3, 5] (fun v i wr => ∃ k : Nat, i = .int .i64 k ∧ k ≤ (posL s).length ∧ wr.ownsRow w1.heap.size 32 3 v k (((posL s).take k).flatMap (stepCells s)) ∧ Below w1.heap.size w1 wr) (fun _ i _ => (posL s).length - (intOf i).toNat)
  case atStart => exact ⟨0, rfl, Nat.zero_le _, World.ownsRow_nil _ _ _ _, Below.refl _ _⟩
  case round =>
    obtain ⟨k, rfl, hk, hrow, hbw⟩ := hrel
    have HW := Lib.hid hbw
    have HRow := Lib.hid hrow
    clear hbw hrow
    by_cases hlt : k < (posL s).length
    · obtain ⟨q, hq⟩ : ∃ q, (posL s)[k]? = some q := ⟨_, List.getElem?_eq_getElem hlt⟩
      obtain ⟨g, rfl, hg⟩ := HG.out k q (by rw [List.getElem?_append_left hlt]; exact hq)
      have hgw := cell_stays HW.out hg
      have hqs : q < s.size := posL_lt s k q hq
      have HTk : Hid ((posL s).take (k + 1) = (posL s).take k ++ [q]) := by show _ = _; rw [List.take_add_one, hq]; rfl
      clear hg hq
      go_wp2_with (first
        | (go_at_call 37; (with_reducible refine (refOf_calls A c s q _ (HB.out.below (H1.out.trans (HW.out.mono H1.out.size))) (by omega) (by omega)).mono ?_); rw [Int.toNat_natCast]; rintro e w3 ⟨rfl, h3⟩; have H3 := Lib.hid (HW.out.trans (h3.mono HW.out.size)); have HR3 := Lib.hid (own_move HRow.out (fun k hk => h3.block k (own_lt HRow.out k hk))); clear h3)
        | (at_builtin; refine wpList_append_own _ rfl (.tmp 15) (.tmp 22) 36 rfl w1.heap.size 32 k0 _ 3 24 Tryd.underlying36 hk0 hk1 hk2 hk3 rfl (by decide) u3 _ _ rfl (HR3.out.alloc _) ⟨w3.heap.size, 0, none⟩ 1 1 (stepCells s q) rfl rfl (cell_three _ _ _ _ _ _ (World.alloc_heap_new w3 _)) (by simp [stepCells, Value.oneCell']) (by unfold maxLen; omega) (by omega) (by have := H3.out.size; simp; omega) ?_; intro v' w4 hown' hgrow _))
      go_roundw
      case rel =>
        refine ⟨k + 1, by go_num, by omega, ?_, below_over (HR3.out.alloc _) hgrow (H3.out.alloc H3.out.size _) (by have := H3.out.size; simp; omega)⟩
        rw [HTk.out]
        simpa using hown'
      case measure => simp [intOf]; omega
    · obtain rfl : k = (posL s).length := by omega
      go_wp2_with fail
      go_ret
      refine ⟨_, rfl, ?_, H1.out.trans (HW.out.mono H1.out.size)⟩
      have := HRow.out
      rw [List.take_length] at this
      exact own_weaken this H1.out.size
end Go.Proofs.YtcnbfpmognijcaaDoor
