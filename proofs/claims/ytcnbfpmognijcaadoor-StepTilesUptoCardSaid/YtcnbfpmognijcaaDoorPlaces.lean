/- The walk of StepPlaces. -/
import Derived.Test.YtcnbfpmognijcaaDoorFixed
import Derived.Test.YtcnbfpmognijcaaDoorRef6
namespace Go.Proofs.YtcnbfpmognijcaaDoor
open Go.RowKit Galley Go.Proofs.YtcnbfpmognijcaaDoorW.PrintWords
attribute [local go_sem ↓] field0 field1 field2

theorem agg_alloc {w w1 : World} (h : Below w.heap.size w w1) (o : Obj) : Below w.heap.size w (w1.alloc o) := h.alloc h.size o

set_option maxRecDepth 100000 in
set_option maxHeartbeats 1000000 in
theorem places_walk (A : Option Addr) (c : Nat) (s : ByteArray) (p : Int) (w : World) (hg : BadLies w) (hb : Byt w A c s) :
    Calls Tryd.prog 6 #[.slice A s.size c, .int .i64 p] w fun e w' => e = .returned (.bool true) ∧ Below w.heap.size w w' := by
  have hlt := hg.lt
  obtain ⟨r1, wd1, wh1, n1, ha1, hb1, hat, hrat⟩ := At_both s p
  obtain ⟨r2, wd2, wh2, n2, ha2, hb2, hbe, hrbe⟩ := Before_both s p
  obtain ⟨q3, n3, ha3, hb3, hfl, hrfl⟩ := Floor_both s p
  obtain ⟨q4, n4, ha4, hb4, hce, hrce⟩ := Ceil_both s p
  replace hat := Lib.hid hat
  replace hrat := Lib.hid hrat
  replace hbe := Lib.hid hbe
  replace hrbe := Lib.hid hrbe
  replace hfl := Lib.hid hfl
  replace hrfl := Lib.hid hrfl
  replace hce := Lib.hid hce
  replace hrce := Lib.hid hrce
  have HG := Lib.hid hg
  have HY := Lib.hid hb
  clear hg hb
  go_enter Tryd.func6, Tryd.ntmps6
  go_wp2_with fail
  refine (fixed_calls _ HG.out).mono ?_
  rintro e w0 ⟨rfl, h0⟩
  have H0 := Lib.hid h0
  clear h0
  go_wp2_with fail
  refine (hat.out _ _ _ (HG.out.below H0.out hlt) (HY.out.below H0.out)).mono ?_
  rintro e w1 ⟨rfl, h1⟩
  obtain ⟨W1, hW1⟩ : ∃ W1, W1 = w1.alloc (.cells #[.int .i32 r1, .int .i64 wd1, .bool wh1] 32) := ⟨_, rfl⟩
  have N1 : Hid (W1.heap[w1.heap.size]? = some (.cells #[.int .i32 r1, .int .i64 wd1, .bool wh1] 32)) := by rw [hW1]; exact alloc_at w1 _
  have H1 : Hid (Below w.heap.size w W1) := by rw [hW1]; exact agg_alloc (H0.out.trans (h1.mono H0.out.size)) _
  have HW1 := Lib.hid hW1
  clear h1 hW1 H0
  go_wp2_with fail
  rw [← HW1.out]
  refine (hrat.out _ _ _ (HY.out.below H1.out)).mono ?_
  rintro e w2 ⟨rfl, h2⟩
  obtain ⟨W2, hW2⟩ : ∃ W2, W2 = w2.alloc (.cells #[.int .i32 r1, .int .i64 wd1, .bool wh1] 32) := ⟨_, rfl⟩
  have N2 : Hid (W2.heap[w2.heap.size]? = some (.cells #[.int .i32 r1, .int .i64 wd1, .bool wh1] 32)) := by rw [hW2]; exact alloc_at w2 _
  have h2' : Below W1.heap.size W1 W2 := by rw [hW2]; exact agg_alloc h2 _
  have H2 := Lib.hid (H1.out.trans (h2'.mono H1.out.size))
  have N1' := Lib.hid (keep_blk N1.out h2')
  have HW2 := Lib.hid hW2
  clear h2 hW2 h2' H1 N1
  go_wp2_with fail
  rw [← HW2.out]
  refine (hbe.out _ _ _ (HG.out.below H2.out hlt) (HY.out.below H2.out)).mono ?_
  rintro e w3 ⟨rfl, h3⟩
  obtain ⟨W3, hW3⟩ : ∃ W3, W3 = w3.alloc (.cells #[.int .i32 r2, .int .i64 wd2, .bool wh2] 32) := ⟨_, rfl⟩
  have N3 : Hid (W3.heap[w3.heap.size]? = some (.cells #[.int .i32 r2, .int .i64 wd2, .bool wh2] 32)) := by rw [hW3]; exact alloc_at w3 _
  have h3' : Below W2.heap.size W2 W3 := by rw [hW3]; exact agg_alloc h3 _
  have H3 := Lib.hid (H2.out.trans (h3'.mono H2.out.size))
  have N13 := Lib.hid (keep_blk N1'.out h3')
  have N23 := Lib.hid (keep_blk N2.out h3')
  have HW3 := Lib.hid hW3
  clear h3 hW3 h3' H2 N1' N2
  go_wp2_with fail
  rw [← HW3.out]
  refine (hrbe.out _ _ _ (HY.out.below H3.out)).mono ?_
  rintro e w4 ⟨rfl, h4⟩
  obtain ⟨W4, hW4⟩ : ∃ W4, W4 = w4.alloc (.cells #[.int .i32 r2, .int .i64 wd2, .bool wh2] 32) := ⟨_, rfl⟩
  have N4 : W4.heap[w4.heap.size]? = some (.cells #[.int .i32 r2, .int .i64 wd2, .bool wh2] 32) := by rw [hW4]; exact alloc_at w4 _
  have h4' : Below W3.heap.size W3 W4 := by rw [hW4]; exact agg_alloc h4 _
  have H4 := Lib.hid (H3.out.trans (h4'.mono H3.out.size))
  obtain ⟨⟨a1, a2, a3⟩, _⟩ := cell_of3 (keep_blk N13.out h4')
  obtain ⟨⟨b1, b2, b3⟩, _⟩ := cell_of3 (keep_blk N23.out h4')
  obtain ⟨⟨c1, c2, c3⟩, _⟩ := cell_of3 (keep_blk N3.out h4')
  obtain ⟨⟨d1, d2, d3⟩, _⟩ := cell_of3 N4
  have HW4 := Lib.hid hW4
  clear h4 hW4 h4' H3 N13 N23 N3 N4
  go_wp2_with (rw [← HW4.out])
  clear a1 a2 a3 b1 b2 b3 c1 c2 c3 d1 d2 d3 HW1 HW2 HW3 HW4
  refine (edge_calls _ _ _ _ _ (HG.out.below H4.out hlt) (HY.out.below H4.out)).mono ?_
  rintro e w5 ⟨rfl, h5⟩
  have H5 := Lib.hid (H4.out.trans (h5.mono H4.out.size))
  clear h5 H4
  go_wp2_with (first
    | (refine (refEdge_calls _ _ _ _ _ (HY.out.below H5.out)).mono ?_; rintro e w6 ⟨rfl, rfl⟩; generalize edgeB s p = eb)
    | (refine (hfl.out _ _ _ (HG.out.below H5.out hlt) (HY.out.below H5.out)).mono ?_; rintro e w6 ⟨rfl, h6⟩; have H6 := Lib.hid (H5.out.trans (h6.mono H5.out.size)); clear h6 H5)
    | (refine (hrfl.out _ _ _ (HY.out.below H6.out)).mono ?_; rintro e w7 ⟨rfl, rfl⟩)
    | (refine (hce.out _ _ _ (HG.out.below H6.out hlt) (HY.out.below H6.out)).mono ?_; rintro e w8 ⟨rfl, h8⟩; have H8 := Lib.hid (H6.out.trans (h8.mono H6.out.size)); clear h8 H6)
    | (refine (hrce.out _ _ _ (HY.out.below H8.out)).mono ?_; rintro e w9 ⟨rfl, rfl⟩))
  go_ret
  exact ⟨rfl, H8.out⟩
end Go.Proofs.YtcnbfpmognijcaaDoor
