/- The walk of StepTiles. -/
import Derived.Test.YtcnbfpmognijcaaDoorLang
import Derived.Test.YtcnbfpmognijcaaDoorTilesPure
import Derived.Test.YtcnbfpmognijcaaDoorPlaces
namespace Go.Proofs.YtcnbfpmognijcaaDoor
open Go.RowKit Galley Go.Proofs.YtcnbfpmognijcaaDoorW.PrintWords
attribute [local go_sem ↓] field0 field1 field2

theorem Before_ok (A : Option Addr) (c : Nat) (s : ByteArray) (p : Int) (w : World) (hg : BadLies w) (hb : Byt w A c s) (h0 : 1 ≤ p) (hp : p ≤ s.size) (hi : insK s p.toNat = 0) :
    Calls Tryd.prog 19 #[.slice A s.size c, .int .i64 p] w fun e w' => e = .returned (.tuple #[.agg #[.int .i32 (rune s (begP s p)), .int .i64 (width s (begP s p)), .bool (whole s (begP s p))], .int .i64 0]) ∧ Below w.heap.size w w' := by
  by_cases he : p = s.size
  · exact Before_end A c s p w hg hb h0 he
  · exact Before_mid A c s p w hg hb h0 (by omega) hi

set_option maxRecDepth 100000 in
set_option maxHeartbeats 4000000 in
theorem tiles_walk (A : Option Addr) (c : Nat) (s : ByteArray) (w : World) (hg : BadLies w) (hb : Byt w A c s) (hs : s.size ≤ 1073741824) :
    Calls Tryd.prog 7 #[.slice A s.size c] w fun e w' => e = .returned (.bool true) ∧ Below w.heap.size w w' := by
  have hlt := hg.lt
  have HG := Lib.hid hg
  have HY := Lib.hid hb
  clear hg hb
  go_enter Tryd.func7, Tryd.ntmps7
  go_wp2_with fail
  refine (fixed_calls _ HG.out).mono ?_
  rintro e w0 ⟨rfl, h0⟩
  have H0 := Lib.hid h0
  clear h0
  go_wp2_with fail
  refine (All_calls _ _ _ _ (HY.out.below H0.out)).mono ?_
  rintro e w1 ⟨rfl, rfl⟩
  have H1 : Hid (Below w.heap.size w (w0.alloc (.cells #[.string s] 9))) := H0.out.alloc H0.out.size _
  have hc1 : (w0.alloc (.cells #[.string s] 9)).cell? ⟨w0.heap.size, 0, none⟩ = some (.string s) := by simp
  have HC1 := Lib.hid hc1
  clear hc1
  go_wp2_with fail
  refine (gone_all _ s hs _ HC1.out (HG.out.below H1.out hlt)).mono ?_
  rintro e W1 ⟨A1, c1, A2, c2, rfl, hG, h2⟩
  have H2 := Lib.hid (H1.out.trans (h2.mono H1.out.size))
  have HGv := Lib.hid hG
  clear hG h2 H1 HC1 H0
  go_wp2_with fail
  go_loopw [5, 27] (fun t i wr => ∃ (pre : List Nat) (pos : Nat), t = .int .i64 pos ∧ i = .int .i64 pre.length ∧ posL s = pre ++ posAt s pos ∧ pos ≤ s.size ∧ insK s pos = 0 ∧ Below W1.heap.size W1 wr) (fun _ i _ => (posL s).length - (intOf i).toNat)
  case atStart => exact ⟨[], 0, rfl, rfl, (posAt_zero s).symm, Nat.zero_le _, insK_zero s 0 (ins_zero s), Below.refl _ _⟩
  case round =>
    obtain ⟨pre, pos, rfl, rfl, hpre, hple, hik, hbw⟩ := hrel
    obtain ⟨wo, hwo⟩ : ∃ wo, wo = wr := ⟨_, rfl⟩
    subst hwo
    have hpl : pre.length ≤ (posL s).length := by rw [hpre]; simp
    have hps := posL_length s
    have HP := Lib.hid hpre
    have HB := Lib.hid hbw
    have HW := Lib.hid (H2.out.trans (hbw.mono H2.out.size))
    have HI := Lib.hid hik
    clear hpre hbw hik
    by_cases hp : pos < s.size
    · obtain ⟨hk, hkl⟩ := at_round s pre pos HP.out hp
      obtain ⟨g1, rfl, k1⟩ := (HGv.out.below HB.out).places _ _ hk
      obtain ⟨g2, rfl, k2, k3, k4⟩ := (HGv.out.below HB.out).steps _ _ hk
      clear hk
      have hw1 := width_pos s pos
      have hw4 := width_le s pos
      have hwe := width_end s pos hp
      have hnw := not_whole s pos
      have hne := not_ins s pos HI.out
      have hfl := fun j (hj : j < width s pos) => tile_floor s pos j hne hj
      have hcl := fun j (h1 : 1 ≤ j) (hj : j < width s pos) => tile_ceil s pos j hne h1 hj
      have hin := fun j (h1 : 1 ≤ j) (hj : j < width s pos) => tile_ins s pos j hne h1 hj
      have hed := insK_zero s _ (step_edge s pos hne)
      obtain ⟨r, hr⟩ : ∃ r : Int, (rune s pos : Int) = r := ⟨_, rfl⟩
      obtain ⟨wd, hwd⟩ : ∃ wd : Nat, width s pos = wd := ⟨_, rfl⟩
      obtain ⟨wh, hwh⟩ : ∃ wh : Bool, whole s pos = wh := ⟨_, rfl⟩
      have hbeg : begP s ((pos : Int) + wd) = pos := by
        have := hfl (wd - 1) (by omega)
        unfold begP
        rw [show ((pos : Int) + wd - 1).toNat = pos + (wd - 1) by omega]
        exact this
      rw [hr] at k2
      rw [hwd] at k3 hw1 hw4 hwe hnw hfl hcl hin hed
      rw [hwh] at k4 hnw
      have hnw' : wh = false → wd = 1 ∧ r = 65533 := fun h => ⟨(hnw h).1, by rw [← hr, (hnw h).2]; rfl⟩
      have HF := Lib.hid hfl
      have HC := Lib.hid hcl
      have HK := Lib.hid hin
      have HE := Lib.hid hed
      have HR := Lib.hid hr
      have HWd := Lib.hid hwd
      have HWh := Lib.hid hwh
      have HBg := Lib.hid hbeg
      clear hfl hcl hin hed hr hwd hwh hnw hne hbeg
      obtain ⟨W2, hW2⟩ : ∃ W2, W2 = wo.alloc (.cells #[.int .i32 r, .int .i64 wd, .bool wh] 32) := ⟨_, rfl⟩
      have N2 : W2.heap[wo.heap.size]? = some (.cells #[.int .i32 r, .int .i64 wd, .bool wh] 32) := by rw [hW2]; exact alloc_at wo _
      have hB2 : Below wo.heap.size wo W2 := by rw [hW2]; exact (Below.refl _ wo).alloc (Nat.le_refl _) _
      have b1 := cell_stays hB2 k1
      rw [hW2] at b1
      have HW2 := Lib.hid hW2
      have HB2 := Lib.hid hB2
      have HN2 := Lib.hid N2
      clear hW2 hB2 N2 k1
      have t1 : ((pos : Int) + wd == pos) = false := beq_eq_false_iff_ne.2 (by omega)
      have t6 : ¬ (pos : Int) + wd = pos := by omega
      have t7 : ((pos : Int) == pos + wd) = false := beq_eq_false_iff_ne.2 (by omega)
      have t8 : ¬ (pos : Int) = pos + wd := by omega
      cases wh with
      | true =>
        clear hnw'
        go_wp2_with fail
        rw [← HW2.out]
        clear b1 k2 k3 k4
        have HX2 := Lib.hid (HW.out.trans (HB2.out.mono HW.out.size))
        go_loopw [8] (fun p w8 => ∃ q : Nat, pos ≤ q ∧ q ≤ pos + wd ∧ p = .int .i64 q ∧ Below W2.heap.size W2 w8) (fun p _ => pos + wd - (intOf p).toNat)
        case atStart => exact ⟨pos, Nat.le_refl _, by omega, rfl, Below.refl _ _⟩
        case round =>
          obtain ⟨q, hq1, hq2, rfl, hb8⟩ := hrel
          obtain ⟨⟨m1, m2, m3⟩, _⟩ := cell_of3 (keep_blk HN2.out hb8)
          have HX := Lib.hid (HX2.out.trans (hb8.mono HX2.out.size))
          have HB8 := Lib.hid hb8
          clear hb8
          by_cases hq : q < pos + wd
          · have hF : floorP s ((q : Int)).toNat = pos := by
              have := HF.out (q - pos) (by omega)
              rw [show pos + (q - pos) = q by omega] at this
              rw [Int.toNat_natCast]; exact this
            have F1 := Lib.hid hF
            clear hF
            by_cases h0 : q = pos
            · have t2 : ((q : Int) == pos) = true := by rw [h0]; simp
              have hC : ceilP s ((q : Int)).toNat = pos := by rw [Int.toNat_natCast, h0]; exact ceil_self s pos (not_ins s pos HI.out)
              have hE : edgeB s (q : Int) = true := by
                unfold edgeB
                rw [Int.toNat_natCast, h0, HI.out]
                exact decide_eq_true ⟨by omega, by omega, rfl⟩
              have C1 := Lib.hid hC
              have E1 := Lib.hid hE
              have HQ := Lib.hid h0
              have t5 : ¬ (pos : Int) < q := by omega
              clear hC hE h0
              go_wp2_with (first
                | (go_at_call 22; (with_reducible refine (floor_in A c s q _ (HG.out.below HX.out hlt) (HY.out.below HX.out) (by omega) (by omega)).mono ?_); rw [F1.out]; rintro e w9 ⟨rfl, h9⟩)
                | (go_at_call 24; (with_reducible refine (ceil_in A c s q _ (HG.out.below (HX.out.trans (h9.mono HX.out.size)) hlt) ((HY.out.below HX.out).below h9) (by omega) (by omega)).mono ?_); rw [C1.out]; rintro e w10 ⟨rfl, h10⟩; have h11 := h9.trans (h10.mono h9.size); clear h9 h10; obtain ⟨⟨n1, n2, n3⟩, _⟩ := cell_of3 (keep_blk (keep_blk HN2.out HB8.out) h11))
                | (go_at_call 11; (with_reducible refine (edge_calls A c s q _ (HG.out.below (HX.out.trans (h11.mono HX.out.size)) hlt) ((HY.out.below HX.out).below h11)).mono ?_); rw [E1.out]; rintro e w12 ⟨rfl, h12⟩; have h13 := h11.trans (h12.mono h11.size); clear h11 h12))
              go_roundw
              case rel => exact ⟨q + 1, by omega, by omega, by go_num, HB8.out.trans (h13.mono HB8.out.size)⟩
              case measure => simp [intOf]; omega
            · skip
              have t2 : ((q : Int) == pos) = false := beq_eq_false_iff_ne.2 (by omega)
              have hC : ceilP s ((q : Int)).toNat = pos + wd := by
                have := HC.out (q - pos) (by omega) (by omega)
                rw [show pos + (q - pos) = q by omega] at this
                rw [Int.toNat_natCast]; exact this
              have hE : edgeB s (q : Int) = false := by
                have := HK.out (q - pos) (by omega) (by omega)
                rw [show pos + (q - pos) = q by omega] at this
                unfold edgeB
                rw [Int.toNat_natCast, this]
                exact decide_eq_false (fun h => by have := h.2.2; omega)
              have C1 := Lib.hid hC
              have E1 := Lib.hid hE
              clear hC hE
              go_wp2_with (first
                | (go_at_call 22; (with_reducible refine (floor_in A c s q _ (HG.out.below HX.out hlt) (HY.out.below HX.out) (by omega) (by omega)).mono ?_); rw [F1.out]; rintro e w9 ⟨rfl, h9⟩)
                | (go_at_call 24; (with_reducible refine (ceil_in A c s q _ (HG.out.below (HX.out.trans (h9.mono HX.out.size)) hlt) ((HY.out.below HX.out).below h9) (by omega) (by omega)).mono ?_); rw [C1.out]; rintro e w10 ⟨rfl, h10⟩; have h11 := h9.trans (h10.mono h9.size); clear h9 h10; obtain ⟨⟨n1, n2, n3⟩, _⟩ := cell_of3 (keep_blk (keep_blk HN2.out HB8.out) h11))
                | (go_at_call 11; (with_reducible refine (edge_calls A c s q _ (HG.out.below (HX.out.trans (h11.mono HX.out.size)) hlt) ((HY.out.below HX.out).below h11)).mono ?_); rw [E1.out]; rintro e w12 ⟨rfl, h12⟩; have h13 := h11.trans (h12.mono h11.size); clear h11 h12))
              go_roundw
              case rel => exact ⟨q + 1, by omega, by omega, by go_num, HB8.out.trans (h13.mono HB8.out.size)⟩
              case measure => simp [intOf]; omega
          · obtain rfl : q = pos + wd := by omega
            clear hq hq1 hq2 t1 t6 t7 t8
            have eq : ((pos + wd : Nat) : Int) = (pos : Int) + wd := by omega
            go_wp2_with fail
            refine (At_ok A c s pos _ (HG.out.below HX.out hlt) (HY.out.below HX.out) (by omega) (by omega) (by rw [Int.toNat_natCast]; exact HI.out)).mono ?_
            rw [Int.toNat_natCast, HR.out, HWd.out, HWh.out]
            rintro e w9 ⟨rfl, h9⟩
            obtain ⟨W9, hW9⟩ : ∃ W9, W9 = w9.alloc (.cells #[.int .i32 r, .int .i64 wd, .bool true] 32) := ⟨_, rfl⟩
            have N9 : Hid (W9.heap[w9.heap.size]? = some (.cells #[.int .i32 r, .int .i64 wd, .bool true] 32)) := by rw [hW9]; exact alloc_at w9 _
            have h9' : Below wr.heap.size wr W9 := by rw [hW9]; exact agg_alloc h9 _
            have H9 := Lib.hid (HB8.out.trans (h9'.mono HB8.out.size))
            obtain ⟨⟨n1, n2, n3⟩, _⟩ := cell_of3 (keep_blk HN2.out H9.out)
            have HW9 := Lib.hid hW9
            clear h9 h9' hW9 m1 m2 m3
            go_wp2_with (rw [← HW9.out])
            refine (Before_ok A c s ((pos : Int) + wd) _ (HG.out.below (HX2.out.trans (H9.out.mono HX2.out.size)) hlt) (HY.out.below (HX2.out.trans (H9.out.mono HX2.out.size))) (by omega) (by omega) (by rw [show ((pos : Int) + wd).toNat = pos + wd by omega]; exact HE.out)).mono ?_
            rw [HBg.out, HR.out, HWd.out, HWh.out]
            rintro e w10 ⟨rfl, h10⟩
            obtain ⟨W10, hW10⟩ : ∃ W10, W10 = w10.alloc (.cells #[.int .i32 r, .int .i64 wd, .bool true] 32) := ⟨_, rfl⟩
            have N10 : W10.heap[w10.heap.size]? = some (.cells #[.int .i32 r, .int .i64 wd, .bool true] 32) := by rw [hW10]; exact alloc_at w10 _
            have h10' : Below W9.heap.size W9 W10 := by rw [hW10]; exact agg_alloc h10 _
            have H10 := Lib.hid (H9.out.trans (h10'.mono H9.out.size))
            obtain ⟨⟨o1, o2, o3⟩, _⟩ := cell_of3 (keep_blk HN2.out H10.out)
            obtain ⟨⟨p1, p2, p3⟩, _⟩ := cell_of3 (keep_blk N9.out h10')
            obtain ⟨⟨q1, q2, q3⟩, _⟩ := cell_of3 N10
            have HW10 := Lib.hid hW10
            clear h10 h10' hW10 n1 n2 n3 N10
            go_wp2_with (rw [← HW10.out])
            go_roundw
            case rel =>
              refine ⟨pre ++ [pos], pos + wd, by go_num, by simp, ?_, by omega, HE.out, HB.out.trans ((HB2.out.mono HB.out.size).trans (H10.out.mono (Nat.le_trans HB.out.size HB2.out.size)))⟩
              rw [HP.out, posAt_step s pos hp, HWd.out]; simp
            case measure => simp [intOf]; omega
      | false =>
        obtain ⟨e1, e2⟩ := hnw' rfl
        have t3 : ((wd : Int) == 1) = true := by rw [e1]; rfl
        have t4 : (r == 65533) = true := by rw [e2]; rfl
        have t9 : decide ((wd : Int) = 1) = true := by rw [e1]; rfl
        have t10 : decide (r = 65533) = true := by rw [e2]; rfl
        have E0 := Lib.hid e1
        clear hnw' e1 e2
        go_wp2_with fail
        · exfalso
          have := E0.out
          omega
        rename ((wd : Int) = 1) => hz
        have HW2b := HW2.out
        rw [hz] at HW2b
        rw [← HW2b]
        clear hz HW2b t3 t4 t9 t10
        clear b1 k2 k3 k4
        have HX2 := Lib.hid (HW.out.trans (HB2.out.mono HW.out.size))
        go_loopw [8] (fun p w8 => ∃ q : Nat, pos ≤ q ∧ q ≤ pos + wd ∧ p = .int .i64 q ∧ Below W2.heap.size W2 w8) (fun p _ => pos + wd - (intOf p).toNat)
        case atStart => exact ⟨pos, Nat.le_refl _, by omega, rfl, Below.refl _ _⟩
        case round =>
          obtain ⟨q, hq1, hq2, rfl, hb8⟩ := hrel
          obtain ⟨⟨m1, m2, m3⟩, _⟩ := cell_of3 (keep_blk HN2.out hb8)
          have HX := Lib.hid (HX2.out.trans (hb8.mono HX2.out.size))
          have HB8 := Lib.hid hb8
          clear hb8
          by_cases hq : q < pos + wd
          · have hF : floorP s ((q : Int)).toNat = pos := by
              have := HF.out (q - pos) (by omega)
              rw [show pos + (q - pos) = q by omega] at this
              rw [Int.toNat_natCast]; exact this
            have F1 := Lib.hid hF
            clear hF
            by_cases h0 : q = pos
            · have t2 : ((q : Int) == pos) = true := by rw [h0]; simp
              have hC : ceilP s ((q : Int)).toNat = pos := by rw [Int.toNat_natCast, h0]; exact ceil_self s pos (not_ins s pos HI.out)
              have hE : edgeB s (q : Int) = true := by
                unfold edgeB
                rw [Int.toNat_natCast, h0, HI.out]
                exact decide_eq_true ⟨by omega, by omega, rfl⟩
              have C1 := Lib.hid hC
              have E1 := Lib.hid hE
              have HQ := Lib.hid h0
              have t5 : ¬ (pos : Int) < q := by omega
              clear hC hE h0
              go_wp2_with (first
                | (go_at_call 22; (with_reducible refine (floor_in A c s q _ (HG.out.below HX.out hlt) (HY.out.below HX.out) (by omega) (by omega)).mono ?_); rw [F1.out]; rintro e w9 ⟨rfl, h9⟩)
                | (go_at_call 24; (with_reducible refine (ceil_in A c s q _ (HG.out.below (HX.out.trans (h9.mono HX.out.size)) hlt) ((HY.out.below HX.out).below h9) (by omega) (by omega)).mono ?_); rw [C1.out]; rintro e w10 ⟨rfl, h10⟩; have h11 := h9.trans (h10.mono h9.size); clear h9 h10; obtain ⟨⟨n1, n2, n3⟩, _⟩ := cell_of3 (keep_blk (keep_blk HN2.out HB8.out) h11))
                | (go_at_call 11; (with_reducible refine (edge_calls A c s q _ (HG.out.below (HX.out.trans (h11.mono HX.out.size)) hlt) ((HY.out.below HX.out).below h11)).mono ?_); rw [E1.out]; rintro e w12 ⟨rfl, h12⟩; have h13 := h11.trans (h12.mono h11.size); clear h11 h12))
              go_roundw
              case rel => exact ⟨q + 1, by omega, by omega, by go_num, HB8.out.trans (h13.mono HB8.out.size)⟩
              case measure => simp [intOf]; omega
            · skip
              exfalso
              have := E0.out
              omega
          · obtain rfl : q = pos + wd := by omega
            clear hq hq1 hq2 t1 t6 t7 t8
            have eq : ((pos + wd : Nat) : Int) = (pos : Int) + wd := by omega
            go_wp2_with fail
            refine (At_ok A c s pos _ (HG.out.below HX.out hlt) (HY.out.below HX.out) (by omega) (by omega) (by rw [Int.toNat_natCast]; exact HI.out)).mono ?_
            rw [Int.toNat_natCast, HR.out, HWd.out, HWh.out]
            rintro e w9 ⟨rfl, h9⟩
            obtain ⟨W9, hW9⟩ : ∃ W9, W9 = w9.alloc (.cells #[.int .i32 r, .int .i64 wd, .bool false] 32) := ⟨_, rfl⟩
            have N9 : Hid (W9.heap[w9.heap.size]? = some (.cells #[.int .i32 r, .int .i64 wd, .bool false] 32)) := by rw [hW9]; exact alloc_at w9 _
            have h9' : Below wr.heap.size wr W9 := by rw [hW9]; exact agg_alloc h9 _
            have H9 := Lib.hid (HB8.out.trans (h9'.mono HB8.out.size))
            obtain ⟨⟨n1, n2, n3⟩, _⟩ := cell_of3 (keep_blk HN2.out H9.out)
            have HW9 := Lib.hid hW9
            clear h9 h9' hW9 m1 m2 m3
            go_wp2_with (rw [← HW9.out])
            refine (Before_ok A c s ((pos : Int) + wd) _ (HG.out.below (HX2.out.trans (H9.out.mono HX2.out.size)) hlt) (HY.out.below (HX2.out.trans (H9.out.mono HX2.out.size))) (by omega) (by omega) (by rw [show ((pos : Int) + wd).toNat = pos + wd by omega]; exact HE.out)).mono ?_
            rw [HBg.out, HR.out, HWd.out, HWh.out]
            rintro e w10 ⟨rfl, h10⟩
            obtain ⟨W10, hW10⟩ : ∃ W10, W10 = w10.alloc (.cells #[.int .i32 r, .int .i64 wd, .bool false] 32) := ⟨_, rfl⟩
            have N10 : W10.heap[w10.heap.size]? = some (.cells #[.int .i32 r, .int .i64 wd, .bool false] 32) := by rw [hW10]; exact alloc_at w10 _
            have h10' : Below W9.heap.size W9 W10 := by rw [hW10]; exact agg_alloc h10 _
            have H10 := Lib.hid (H9.out.trans (h10'.mono H9.out.size))
            obtain ⟨⟨o1, o2, o3⟩, _⟩ := cell_of3 (keep_blk HN2.out H10.out)
            obtain ⟨⟨p1, p2, p3⟩, _⟩ := cell_of3 (keep_blk N9.out h10')
            obtain ⟨⟨q1, q2, q3⟩, _⟩ := cell_of3 N10
            have HW10 := Lib.hid hW10
            clear h10 h10' hW10 n1 n2 n3 N10
            go_wp2_with (rw [← HW10.out])
            go_roundw
            case rel =>
              refine ⟨pre ++ [pos], pos + wd, by go_num, by simp, ?_, by omega, HE.out, HB.out.trans ((HB2.out.mono HB.out.size).trans (H10.out.mono (Nat.le_trans HB.out.size HB2.out.size)))⟩
              rw [HP.out, posAt_step s pos hp, HWd.out]; simp
            case measure => simp [intOf]; omega
    · have hk : pre.length = (posL s).length := by rw [HP.out, posAt_end s pos hp]; simp
      obtain rfl : pos = s.size := by omega
      have e1 : edgeB s ((s.size : Nat) : Int) = true := decide_eq_true ⟨by omega, by omega, by rw [Int.toNat_natCast]; exact HI.out⟩
      have e2 : edgeB s ((s.size : Int) + 1) = false := decide_eq_false (fun h => by omega)
      have e3 : edgeB s (-1) = false := decide_eq_false (fun h => by omega)
      have E1 := Lib.hid e1
      have E2 := Lib.hid e2
      have E3 := Lib.hid e3
      clear HP e1 e2 e3 hpl hp hple
      rw [hk]
      clear hk
      go_wp2_with fail
      refine (edge_calls A c s s.size _ (HG.out.below HW.out hlt) (HY.out.below HW.out)).mono ?_
      rw [E1.out]
      rintro e w5 ⟨rfl, h5⟩
      have H5 := Lib.hid (HW.out.trans (h5.mono HW.out.size))
      clear h5
      go_wp2_with fail
      refine (edge_calls A c s ((s.size : Int) + 1) _ (HG.out.below H5.out hlt) (HY.out.below H5.out)).mono ?_
      rw [E2.out]
      rintro e w6 ⟨rfl, h6⟩
      have H6 := Lib.hid (H5.out.trans (h6.mono H5.out.size))
      clear h6 H5
      go_wp2_with fail
      refine (edge_calls A c s (-1) _ (HG.out.below H6.out hlt) (HY.out.below H6.out)).mono ?_
      rw [E3.out]
      rintro e w7 ⟨rfl, h7⟩
      have H7 := Lib.hid (H6.out.trans (h7.mono H6.out.size))
      clear h7 H6
      go_wp2_with fail
      go_ret
      exact ⟨rfl, H7.out⟩
end Go.Proofs.YtcnbfpmognijcaaDoor
