/- The contract of the statements' closed part, fixed. -/
import Derived.Test.YtcnbfpmognijcaaDoorRunes
import Derived.Lib.SlBytesConst
namespace Go.Proofs.YtcnbfpmognijcaaDoor
open Go.RowKit Galley Go.Proofs.YtcnbfpmognijcaaDoorW.PrintWords
attribute [local go_sem ↓] field0 field1 field2

/-- a block of bytes that the call itself laid -/
theorem byt_new {w : World} {g c : Nat} {cs : Array Value} {t : TypeId} {fz : Nat × Nat} (s : ByteArray) (h : w.heap[g]? = some (.cells cs t fz)) (hc : s.size ≤ c) (hs : s.size ≤ 140737488355328)
    (hcs : cs.toList.take s.size = (bytesOf s).map (Value.int .u8)) : Byt w (some ⟨g, 0, none⟩) c s := by
  refine ⟨⟨rfl, by rw [bytesOf_length]; omega, fun _ => ⟨_, rfl, fun j p hj => ⟨[.int .u8 p], rfl, rfl, fun i u hu => ?_⟩⟩⟩, hc, hs⟩
  cases i with
  | succ i => simp at hu
  | zero =>
    simp at hu
    subst hu
    have hj' : j < s.size := by rw [← bytesOf_length]; exact (List.getElem?_eq_some_iff.1 hj).1
    have e1 : (cs.toList.take s.size)[j]? = some (Value.int .u8 p) := by rw [hcs, List.getElem?_map, hj]; rfl
    rw [List.getElem?_take, if_pos hj'] at e1
    have ha : (⟨g, 0, none⟩ : Addr).add (j * 1 + 0) = ⟨g, j, none⟩ := by unfold Addr.add; split <;> simp_all
    show w.cell? ((⟨g, 0, none⟩ : Addr).add (j * 1 + 0)) = _
    rw [ha]
    simp [World.cell?, h]
    rwa [Array.getElem?_toList] at e1

def b0 : ByteArray := ⟨#[97, 240, 159, 152, 128, 98]⟩
def b1 : ByteArray := ⟨#[195]⟩
theorem b0_facts : insK b0 1 = 0 ∧ rune b0 1 = 128512 ∧ width b0 1 = 4 ∧ whole b0 1 = true ∧ insK b0 2 ≠ 0 ∧ floorP b0 3 = 1 ∧ edgeB b0 4 = false ∧ validB b0 = true ∧ validB b1 = false := by decide +kernel

section
variable (A : Option Addr) (W : World)
theorem fx1 (hg : BadLies W) (hb : Byt W A 6 b0) : Calls Tryd.prog 17 #[.slice A 6 6, .int .i64 1] W fun e w' => e = .returned (.tuple #[.agg #[.int .i32 128512, .int .i64 4, .bool true], .int .i64 0]) ∧ Below W.heap.size W w' := by
  have h := At_ok A 6 b0 1 W hg hb (by decide) (by decide) b0_facts.1
  obtain ⟨q1, q2, q3, q4, q5, q6, q7, q8, q9⟩ := b0_facts
  rw [show (1 : Int).toNat = 1 from rfl, q2, q3, q4] at h
  exact h
theorem fx2 (hg : BadLies W) (hb : Byt W A 6 b0) : Calls Tryd.prog 17 #[.slice A 6 6, .int .i64 2] W fun e w' => e = .returned (.tuple #[.agg #[.int .i32 0, .int .i64 0, .bool false], .int .i64 4]) ∧ Below W.heap.size W w' := by
  obtain ⟨q1, q2, q3, q4, q5, q6, q7, q8, q9⟩ := b0_facts
  exact At_ins A 6 b0 2 W hg hb (by decide) (by decide) q5
theorem fx3 (hg : BadLies W) (hb : Byt W A 6 b0) : Calls Tryd.prog 22 #[.slice A 6 6, .int .i64 3] W fun e w' => e = .returned (.tuple #[.int .i64 1, .int .i64 0]) ∧ Below W.heap.size W w' := by
  have h := floor_in A 6 b0 3 W hg hb (by decide) (by decide)
  obtain ⟨q1, q2, q3, q4, q5, q6, q7, q8, q9⟩ := b0_facts
  rw [show (3 : Int).toNat = 3 from rfl, q6] at h
  exact h
theorem fx4 (hg : BadLies W) (hb : Byt W A 6 b0) : Calls Tryd.prog 11 #[.slice A 6 6, .int .i64 4] W fun e w' => e = .returned (.bool false) ∧ Below W.heap.size W w' := by
  have h := edge_calls A 6 b0 4 W hg hb
  obtain ⟨q1, q2, q3, q4, q5, q6, q7, q8, q9⟩ := b0_facts
  rw [q7] at h
  exact h
theorem fx5 (hb : Byt W A 6 b0) : Calls Tryd.prog 16 #[.slice A 6 6] W fun e w' => e = .returned (.bool true) ∧ Below W.heap.size W w' := by
  have h := valid_calls A 6 b0 W hb (by decide)
  obtain ⟨q1, q2, q3, q4, q5, q6, q7, q8, q9⟩ := b0_facts
  rw [q8] at h
  exact h
theorem fx6 (hb : Byt W A 1 b1) : Calls Tryd.prog 16 #[.slice A 1 1] W fun e w' => e = .returned (.bool false) ∧ Below W.heap.size W w' := by
  have h := valid_calls A 1 b1 W hb (by decide)
  obtain ⟨q1, q2, q3, q4, q5, q6, q7, q8, q9⟩ := b0_facts
  rw [q9] at h
  exact h
end

theorem alloc_at (w : World) (o : Obj) : (w.alloc o).heap[w.heap.size]? = some o := by
  show (w.heap.push o)[w.heap.size]? = some o
  simp
theorem b0_lies (w : World) : Byt (w.alloc (.cells #[.int .u8 97, .int .u8 240, .int .u8 159, .int .u8 152, .int .u8 128, .int .u8 98] 5 (6, 7))) (some ⟨w.heap.size, 0, none⟩) 6 b0 :=
  byt_new b0 (alloc_at w _) (by decide) (by decide) rfl
theorem b1_lies (w : World) : Byt (w.alloc (.cells #[.int .u8 195] 5 (1, 2))) (some ⟨w.heap.size, 0, none⟩) 1 b1 :=
  byt_new b1 (alloc_at w _) (by decide) (by decide) rfl

set_option maxRecDepth 100000 in
set_option maxHeartbeats 1000000 in
theorem fixed_calls (w : World) (hg : BadLies w) :
    Calls Tryd.prog 10 #[] w fun e w' => e = .returned (.bool true) ∧ Below w.heap.size w w' := by
  have hlt := hg.lt
  have kc := fun (w : World) (C : Array Value) (n c : Nat) => Lib.run_convert_bytes_const (P := Tryd.prog) w 22 5 C n c Tryd.underlying22 Tryd.underlying5
  obtain ⟨W0, hW0⟩ : ∃ W0, W0 = w.alloc (.cells #[.int .u8 97, .int .u8 240, .int .u8 159, .int .u8 152, .int .u8 128, .int .u8 98] 5 (6, 7)) := ⟨_, rfl⟩
  have hB0 : Below w.heap.size w W0 := by rw [hW0]; exact (Below.refl _ w).alloc (Nat.le_refl _) _
  have hsz : W0.heap.size = w.heap.size + 1 := by rw [hW0]; simp
  have hb0 : Byt W0 (some ⟨w.heap.size, 0, none⟩) 6 b0 := by rw [hW0]; exact b0_lies w
  have HG := Lib.hid (hg.below hB0 hlt)
  have HY := Lib.hid hb0
  have HB := Lib.hid hB0
  have HZ := Lib.hid hsz
  have HW := Lib.hid hW0
  clear hg hB0 hsz hb0 hW0
  go_enter Tryd.func10, Tryd.ntmps10
  go_wp2_with fail
  rw [← HW.out]
  refine (fx1 _ _ HG.out HY.out).mono ?_
  rintro e w1 ⟨rfl, h1⟩
  obtain ⟨W1, hW1⟩ : ∃ W1, W1 = w1.alloc (.cells #[.int .i32 128512, .int .i64 4, .bool true] 32) := ⟨_, rfl⟩
  have N1 : Hid (W1.heap[w1.heap.size]? = some (.cells #[.int .i32 128512, .int .i64 4, .bool true] 32)) := by rw [hW1]; exact alloc_at w1 _
  have H1 : Hid (Below W0.heap.size W0 W1) := by rw [hW1]; exact h1.alloc h1.size _
  have HW1 := Lib.hid hW1
  clear h1 hW1
  go_wp2_with fail
  rw [← HW1.out]
  refine (fx2 _ _ (HG.out.below H1.out (by rw [HZ.out]; omega)) (HY.out.below H1.out)).mono ?_
  rintro e w2 ⟨rfl, h2⟩
  obtain ⟨W2, hW2⟩ : ∃ W2, W2 = w2.alloc (.cells #[.int .i32 0, .int .i64 0, .bool false] 32) := ⟨_, rfl⟩
  have h2' : Below W1.heap.size W1 W2 := by rw [hW2]; exact h2.alloc h2.size _
  have H2 := Lib.hid (H1.out.trans (h2'.mono H1.out.size))
  have N2 := Lib.hid (keep_blk N1.out h2')
  have HW2 := Lib.hid hW2
  clear h2 hW2 h2' H1 N1
  go_wp2_with fail
  rw [← HW2.out]
  refine (fx3 _ _ (HG.out.below H2.out (by rw [HZ.out]; omega)) (HY.out.below H2.out)).mono ?_
  rintro e w3 ⟨rfl, h3⟩
  have H3 := Lib.hid (H2.out.trans (h3.mono H2.out.size))
  obtain ⟨⟨m1, m2, m3⟩, _⟩ := cell_of3 (keep_blk N2.out h3)
  clear h3 H2 N2
  go_wp2_with fail
  refine (fx4 _ _ (HG.out.below H3.out (by rw [HZ.out]; omega)) (HY.out.below H3.out)).mono ?_
  rintro e w4 ⟨rfl, h4⟩
  have H4 := Lib.hid (H3.out.trans (h4.mono H3.out.size))
  clear h4 H3 m1 m2 m3
  go_wp2_with fail
  refine (fx5 _ _ (HY.out.below H4.out)).mono ?_
  rintro e w5 ⟨rfl, h5⟩
  have H5 := Lib.hid (H4.out.trans (h5.mono H4.out.size))
  clear h5 H4
  go_wp2_with fail
  refine (fx6 _ _ (b1_lies w5)).mono ?_
  rintro e w6 ⟨rfl, h6⟩
  have h5' : Below W0.heap.size W0 (w5.alloc (.cells #[.int .u8 195] 5 (1, 2))) := H5.out.alloc H5.out.size _
  have H6 := Lib.hid (h5'.trans (h6.mono h5'.size))
  clear h6 h5' H5
  go_wp2_with fail
  go_ret
  exact ⟨rfl, HB.out.trans (H6.out.mono HB.out.size)⟩
end Go.Proofs.YtcnbfpmognijcaaDoor
