/- The walk of StepWalks (under way). -/
import Derived.Test.YtcnbfpmognijcaaDoorRefV
import Derived.Test.YtcnbfpmognijcaaDoorLang
namespace Go.Proofs.YtcnbfpmognijcaaDoor
open Go.RowKit Go.Shelf Galley Go.Proofs.YtcnbfpmognijcaaDoorW.PrintWords
attribute [local go_sem ↓] field0 field1 field2
attribute [local go_sem] Oper.semAt_some

theorem infoI32 : (Tryd.prog.info? 21).map (fun i => (i.zero, i.size, i.bytes)) = some (some (.int .i32 0), 1, 4) := by kernel_rfl
theorem func_nil (f : Nat) (l : Array Value) (w : World) : (binOp .eql 29 (.func (.func f) #[] l) .nilFunc).run Tryd.prog w = .ok (.bool false) w := by kernel_rfl
set_option maxRecDepth 100000 in
set_option maxHeartbeats 4000000 in
theorem walks_walk (A : Option Addr) (c : Nat) (s : ByteArray) (early : Int) (w : World) (hg : BadLies w) (hb : Byt w A c s) (hs : s.size ≤ 1073741824) :
    Calls Tryd.prog 8 #[.slice A s.size c, .int .i64 early] w fun e w' => e = .returned (.bool true) ∧ Below w.heap.size w w' := by
  have hlt := hg.lt
  have HG := Lib.hid hg
  have HY := Lib.hid hb
  have hpl := posL_length s
  clear hg hb
  have hnf := func_nil
  refine (callsIn_wide (n := 3)).1 ?_
  refine callsIn_of_wp_marks Tryd.func8 rfl trivial ?_ rfl
  refine wpIn_wide.2 ?_
  simp only [Tryd.ntmps8, List.size_toArray, List.length_cons, List.length_nil, Nat.reduceAdd, Nat.reduceSub, Array.replicate_succ, Array.replicate_zero, List.push_toArray, List.append_toArray, List.nil_append, List.cons_append]
  go_wp2_with fail
  obtain ⟨W0, hW0⟩ : ∃ W0, W0 = w.alloc (.cells #[.int .i64 early] 3) := ⟨_, rfl⟩
  have h00 : Below w.heap.size w W0 := by rw [hW0]; exact (Below.refl _ w).alloc (Nat.le_refl _) _
  have hE0 : Boxed W0 w.heap.size 3 (.int .i64 early) := by rw [hW0]; exact Boxed.new w 3 _
  rw [← hW0]
  have H0 := Lib.hid h00
  have HE0 := Lib.hid hE0
  clear hW0 h00 hE0
  refine (All_calls _ _ _ _ (HY.out.below H0.out)).mono ?_
  rintro e w1 ⟨rfl, rfl⟩
  obtain ⟨W1, hW1⟩ : ∃ W1, W1 = W0.alloc (.cells #[.string s] 9) := ⟨_, rfl⟩
  have h1 : Below W0.heap.size W0 W1 := by rw [hW1]; exact (Below.refl _ W0).alloc (Nat.le_refl _) _
  have hc1 : W1.cell? ⟨W0.heap.size, 0, none⟩ = some (.string s) := by rw [hW1]; simp
  have HB1 := Lib.hid h1
  have H1 := Lib.hid (H0.out.trans (h1.mono H0.out.size))
  have HC1 := Lib.hid hc1
  rw [← hW1]
  clear hW1 h1 hc1
  go_wp2_with fail
  refine (Back_calls _ _ _ _ (HY.out.below H1.out)).mono ?_
  rintro e W2 ⟨A2, c2, B2, rfl, hc2, hby2, _, _, h2⟩
  have H2 := Lib.hid (H1.out.trans (h2.mono H1.out.size))
  have HB2 := Lib.hid h2
  have HC2 := Lib.hid hc2
  have HY2 := Lib.hid hby2
  clear h2 hc2 hby2
  go_wp2_with fail
  refine (fixed_calls _ (HG.out.below H2.out hlt)).mono ?_
  rintro e W3 ⟨rfl, h3⟩
  have H3 := Lib.hid (H2.out.trans (h3.mono H2.out.size))
  have HB3 := Lib.hid h3
  clear h3
  go_wp2_with fail
  refine (gone_all _ s hs _ (cell_stays HB3.out (cell_stays HB2.out HC1.out)) (HG.out.below H3.out hlt)).mono ?_
  rintro e W4 ⟨A3, c3, A4, c4, rfl, hG4, h4⟩
  have H4 := Lib.hid (H3.out.trans (h4.mono H3.out.size))
  have HB4 := Lib.hid h4
  have HG4 := Lib.hid hG4
  clear h4 hG4
  go_wp2_with fail
  refine (gone_back _ _ _ s hs _ (cell_stays HB4.out (cell_stays HB3.out HC2.out)) ((HY2.out.below HB3.out).below HB4.out) (HG.out.below H4.out hlt)).mono ?_
  rintro e W5 ⟨A5, c5, A6, c6, rfl, hG5, h5⟩
  have H5 := Lib.hid (H4.out.trans (h5.mono H4.out.size))
  have HB5 := Lib.hid h5
  have HG5 := Lib.hid hG5
  clear h5 hG5
  go_wp2_with fail
  refine (refSteps_calls A c s _ (HY.out.below H5.out) hs).mono ?_
  rintro e W6 ⟨v6, rfl, hr6, h6⟩
  obtain ⟨A7, c7, rfl, hS6⟩ := steps_of_row hr6
  have H6 := Lib.hid (H5.out.trans (h6.mono H5.out.size))
  have HB6 := Lib.hid h6
  have HS6 := Lib.hid hS6
  clear h6 hr6 hS6
  go_wp2_with fail
  refine (refEdges_calls A c s _ (HY.out.below H6.out) hs).mono ?_
  rintro e W7 ⟨v7, rfl, hr7, h7⟩
  rw [edges_all, List.length_append, List.length_singleton] at hr7
  obtain ⟨A8, c8, rfl, hP7⟩ := place_at hr7
  have H7 := Lib.hid (H6.out.trans (h7.mono H6.out.size))
  have HB7 := Lib.hid h7
  have HP7 := Lib.hid hP7
  have hcap : (posL s).length + 1 ≤ c8 := by
    rcases hr7.2 with ⟨e, _⟩ | ⟨g, cap, cur, e, _, _, hle, _⟩
    · simp at e
    · simp at e; omega
  obtain ⟨i0, hi0, _, _, _⟩ := info_parts infoInt
  have hcut := cut_to (P := Tryd.prog) 35 3 .i64 Tryd.underlying35 hi0 A8 ((posL s).length + 1) c8 (posL s).length (by omega) (by omega) hcap
  rw [Int.toNat_natCast] at hcut
  clear h7 hP7 hr7 hcap hi0
  go_wp2_with fail
  refine (refSame_calls A4 A7 c4 c7 s (posL s) _ (by omega) (StepsAt.below (StepsAt.below (StepsAt.below (w := W4) (fun j q h => HG4.out.steps j q h) HB5.out) HB6.out) HB7.out) (HS6.out.below HB7.out)).mono ?_
  rintro e W8 ⟨rfl, h8⟩
  have H8 := Lib.hid (H7.out.trans (h8.mono H7.out.size))
  have HB8 := Lib.hid h8
  clear h8
  go_wp2_with fail
  refine (refAlike_calls A3 A8 c3 c8 (posL s) _ (by omega) (PlacesAt.below (PlacesAt.below (PlacesAt.below (PlacesAt.below (w := W4) (fun j q h => HG4.out.places j q h) HB5.out) HB6.out) HB7.out) HB8.out) (PlacesAt.below (w := W7) (fun j q h => HP7.out j q (by rw [List.getElem?_append_left (List.getElem?_eq_some_iff.1 h).1]; exact h)) HB8.out)).mono ?_
  rintro e W9 ⟨rfl, h9⟩
  have H9 := Lib.hid (H8.out.trans (h9.mono H8.out.size))
  have HB9 := Lib.hid (HB8.out.trans (h9.mono HB8.out.size))
  clear h9 hcut
  have HB79 : Below W7.heap.size W7 W9 := HB9.out
  have HB69 : Below W6.heap.size W6 W9 := HB7.out.trans (HB79.mono HB7.out.size)
  have HB59 : Below W5.heap.size W5 W9 := HB6.out.trans (HB69.mono HB6.out.size)
  have HB49 : Below W4.heap.size W4 W9 := HB5.out.trans (HB59.mono HB5.out.size)
  have G9 := Lib.hid (HG4.out.below HB49)
  have T9 := Lib.hid (HG5.out.below HB59)
  have S9 := Lib.hid (HS6.out.below HB69)
  clear HB79 HB69 HB59 HB49
  obtain ⟨r0, hr0, hr1, hr2, hr3⟩ := info_parts infoI32
  go_wp2_with fail
  go_loopw [14, 70] (fun v i wr => ∃ k : Nat, i = .int .i64 k ∧ k ≤ (posL s).length ∧ wr.ownsRow W9.heap.size 21 1 v k (((posL s).take k).map fun q => Value.int .i32 (rune s q : Int)) ∧ Below W9.heap.size W9 wr) (fun _ i _ => (posL s).length - (intOf i).toNat)
  case atStart => exact ⟨0, rfl, Nat.zero_le _, World.ownsRow_nil _ _ _ _, Below.refl _ _⟩
  case round =>
    obtain ⟨k, rfl, hk, hrow, hbw⟩ := hrel
    have HW := Lib.hid hbw
    have HRow := Lib.hid hrow
    clear hbw hrow
    by_cases hkl : k < (posL s).length
    · obtain ⟨q, hq⟩ : ∃ q, (posL s)[k]? = some q := ⟨_, List.getElem?_eq_getElem hkl⟩
      obtain ⟨m, hm⟩ : ∃ m : Nat, (posL s).length = m + 1 + k := ⟨(posL s).length - 1 - k, by omega⟩
      have hqr : (posL s).reverse[m]? = some q := by
        rw [List.getElem?_reverse (by omega)]
        rw [show (posL s).length - 1 - m = k by omega]; exact hq
      obtain ⟨g3, rfl, k1⟩ := (G9.out.below HW.out).places k q hq
      obtain ⟨g4, rfl, k2, k3, k4⟩ := (G9.out.below HW.out).steps k q hq
      obtain ⟨g5, rfl, m1⟩ := (T9.out.below HW.out).places m q hqr
      obtain ⟨g6, rfl, m2, m3, m4⟩ := (T9.out.below HW.out).steps m q hqr
      obtain ⟨g7, rfl, n2, n3, n4⟩ := (S9.out.below HW.out) k q hq
      obtain ⟨r, hr⟩ : ∃ r : Int, (rune s q : Int) = r := ⟨_, rfl⟩
      obtain ⟨wd, hwd⟩ : ∃ wd : Int, (width s q : Int) = wd := ⟨_, rfl⟩
      rw [hr] at k2 m2 n2
      rw [hwd] at k3 m3 n3
      generalize whole s q = wh at k4 m4 n4
      have hm2 : ((posL s).length : Int) - 1 - k = m := by omega
      have HR := Lib.hid hr
      have HTk : Hid ((posL s).take (k + 1) = (posL s).take k ++ [q]) := by show _ = _; rw [List.take_add_one, hq]; rfl
      clear hq hqr hr hwd hm
      go_wp2_with fail
      go_quiet (fail)
      obtain ⟨Wd, hWd⟩ : ∃ x, x = wr.drewN nq := ⟨_, rfl⟩
      have hrd : Wd.ownsRow W9.heap.size 21 1 u14 k (((posL s).take k).map fun q => Value.int .i32 (rune s q : Int)) := by rw [hWd]; exact HRow.out
      have hbd : Below W9.heap.size W9 Wd := by rw [hWd]; exact below_drewN HW.out _
      have nd : Wd.cell? ⟨g7, k * 3, none⟩ = some (.int .i32 r) := by rw [hWd]; exact n2
      rw [← hWd]
      have HRd := Lib.hid hrd
      have HBd := Lib.hid hbd
      clear hWd hrd hbd k1 k2 k3 k4 m1 m2 m3 m4 n2 n3 n4
      go_wp2_with (at_builtin; refine wpList_append_own _ rfl (.tmp 99) (.tmp 105) 33 rfl W9.heap.size 21 r0 (.int .i32 0) 1 4 Tryd.underlying33 hr0 hr1 hr2 hr3 rfl (by decide) u14 _ _ rfl (HRd.out.alloc _) ⟨Wd.heap.size, 0, none⟩ 1 1 [.int .i32 r] rfl rfl (cell_one _ _ _ (by simp)) (by simp [Value.oneCell']) (by unfold maxLen; omega) (by omega) (by have := HBd.out.size; simp; omega) ?_; intro v' w4 hown' hgrow _)
      go_roundw
      case rel =>
        refine ⟨k + 1, by go_num, by omega, ?_, below_over (HRd.out.alloc _) hgrow (HBd.out.alloc HBd.out.size _) (by have := HBd.out.size; simp; omega)⟩
        rw [HTk.out, List.map_append]
        simpa [HR.out] using hown'
      case measure => simp [intOf]; omega
    · obtain rfl : k = (posL s).length := by omega
      obtain ⟨A9, c9, rfl, hR9⟩ : ∃ A9 c9, u14 = .slice A9 (runesL s).length c9 ∧ Runs wr A9 (runesL s) := by
        have h := HRow.out
        rw [List.take_length] at h
        have hk : (posL s).length = (runesL s).length := (runesL_length s).symm
        rw [hk] at h
        exact runs_of_R (Kd.R_of_own (enc := Value.int .i32) (h1 := fun _ => rfl) (ok := fun _ => True) (by
          have e : ((posL s).map fun q => Value.int .i32 (rune s q : Int)) = encs (Value.int .i32) (runesL s) := by unfold encs runesL; rw [List.map_map]; rfl
          rw [← e]; exact h) (fun _ _ => trivial))
      have HR9 := Lib.hid hR9
      clear hR9
      have HWw := Lib.hid (H9.out.trans (HW.out.mono H9.out.size))
      have HB19 : Below W1.heap.size W1 W9 := HB2.out.trans ((HB3.out.trans ((HB4.out.trans ((HB5.out.trans ((HB6.out.trans ((HB7.out.trans (HB9.out.mono HB7.out.size)).mono HB6.out.size)).mono HB5.out.size)).mono HB4.out.size)).mono HB3.out.size)).mono HB2.out.size)
      have hcr := Lib.hid (cell_stays HW.out (cell_stays HB19 HC1.out))
      have her : Boxed wr w.heap.size 3 (.int .i64 early) := (HW.out.block _ (by have := H9.out.size; have := HE0.out.lt; have := H0.out.size; have := HB1.out.size; have := HB19.size; omega)).trans ((HB19.block _ (by have := HE0.out.lt; have := HB1.out.size; omega)).trans ((HB1.out.block _ HE0.out.lt).trans HE0.out))
      have HEr := Lib.hid her
      clear HB19 her
      go_wp2_with fail
      refine (wpIn_wide (n := 3)).1 ?_
      obtain ⟨W10, hW10⟩ : ∃ W10, wr.alloc (.cells #[.int .i64 0] 3) = W10 := ⟨_, rfl⟩
      have bC : Boxed W10 wr.heap.size 3 (.int .i64 0) := by rw [← hW10]; exact Boxed.new wr 3 _
      have hB10 : Below wr.heap.size wr W10 := by rw [← hW10]; exact (Below.refl _ wr).alloc (Nat.le_refl _) _
      have hsz : W10.heap.size = wr.heap.size + 1 := by rw [← hW10]; simp
      rw [hW10]
      clear hW10
      refine wpIn_rangeFunc_ownG rfl (by decide) (gf := 32) (lb := #[.pointer (some ⟨W0.heap.size, 0, none⟩)]) rfl trivial (enters_of Tryd.func32 (by kernel_rfl) rfl)
        (all_stops W0.heap.size wr.heap.size s W10 (cell_stays hB10 hcr.out) (World.block_lt_of_cell? wr _ hcr.out) ((HG.out.below HWw.out hlt).below hB10 (HG.out.below HWw.out hlt).lt) (HG.out.below HWw.out hlt).lt hB10.size) (fun h k => kept_t h k) (keptK_b hB10.size) (Below.refl _ _) (fun _ => rfl)
        (fun (pre : List Nat) W => (Boxed W wr.heap.size 3 (.int .i64 pre.length) ∧ (pre.length = 0 ∨ (pre.length : Int) < early)) ∧ Below wr.heap.size wr W)
        (fun cd pre W => (cd = .exit 2 ∧ pre.length ≠ 0 ∧ (pre.length = 1 ∨ (pre.length : Int) ≤ early) ∧ Boxed W wr.heap.size 3 (.int .i64 pre.length)) ∧ Below wr.heap.size wr W)
        (OwnFrom.and (Own.from (fun sq X Y row hs hg hr => ⟨boxed_own wr.heap.size 3 (fun (l : List Nat) => Value.int .i64 l.length) sq X Y row hs.1 hg hr, hs.2⟩) _) (ownFrom_below (Nat.le_refl _) hB10.size))
        (fun cd => OwnFrom.and (Own.from (fun sq X Y row hs hg hr => ⟨hs.1, hs.2.1, hs.2.2.1, boxed_own wr.heap.size 3 (fun (l : List Nat) => Value.int .i64 l.length) sq X Y row hs.2.2.2 hg hr⟩) _) (ownFrom_below (Nat.le_refl _) hB10.size))
        ⟨⟨bC, .inl rfl⟩, hB10⟩
        (fun x => { tmps := #[Value.slice A s.size c, Value.int IntKind.i64 early, undef, Value.pointer (some { block := w.heap.size, off := 0 }), u4, Value.func (Fn.func 32) #[] #[Value.pointer (some { block := W0.heap.size, off := 0 })], Value.func (Fn.func 38) #[] #[Value.pointer (some { block := B2, off := 0 })], Value.slice A3 (posL s).length c3, Value.slice A4 (posL s).length c4, Value.slice A5 (posL s).length c5, Value.slice A6 (posL s).length c6, Value.slice A7 (posL s).length c7, Value.slice A8 ((posL s).length + 1) c8, Value.int IntKind.i64 ↑(posL s).length, Value.slice A9 (runesL s).length c9, u15, Value.pointer (some { block := wr.heap.size, off := 0 }), Value.slice A s.size c, Value.func (Fn.func 32) #[] #[Value.pointer (some { block := W0.heap.size, off := 0 })], Value.slice A s.size c, Value.func (Fn.func 38) #[] #[Value.pointer (some { block := B2, off := 0 })], Value.func (Fn.func 32) #[] #[Value.pointer (some { block := W0.heap.size, off := 0 })], Value.bool false, Value.bool false, Value.func (Fn.func 38) #[] #[Value.pointer (some { block := B2, off := 0 })], Value.bool false, Value.bool false, Value.bool false, Value.bool true, Value.bool false, Value.bool false, Value.tuple #[Value.slice A3 (posL s).length c3, Value.slice A4 (posL s).length c4], Value.func (Fn.func 32) #[] #[Value.pointer (some { block := W0.heap.size, off := 0 })], Value.tuple #[Value.slice A3 (posL s).length c3, Value.slice A4 (posL s).length c4], Value.slice A3 (posL s).length c3, Value.slice A4 (posL s).length c4, Value.tuple #[Value.slice A5 (posL s).length c5, Value.slice A6 (posL s).length c6], Value.func (Fn.func 38) #[] #[Value.pointer (some { block := B2, off := 0 })], Value.tuple #[Value.slice A5 (posL s).length c5, Value.slice A6 (posL s).length c6], Value.slice A5 (posL s).length c5, Value.slice A6 (posL s).length c6, Value.slice A s.size c, Value.slice A7 (posL s).length c7, Value.slice A s.size c, Value.slice A8 ((posL s).length + 1) c8, Value.slice A4 (posL s).length c4, Value.slice A7 (posL s).length c7, Value.bool true, Value.bool false, Value.bool false, Value.slice A3 (posL s).length c3, Value.slice A8 ((posL s).length + 1) c8, Value.slice A8 ((posL s).length + 1) c8, Value.int IntKind.i64 (↑(posL s).length + 1), Value.int IntKind.i64 ↑(posL s).length, Value.slice A8 (posL s).length c8, Value.bool true, Value.bool false, Value.bool false, Value.bool false, Value.slice A6 (posL s).length c6, Value.int IntKind.i64 ↑(posL s).length, Value.slice A4 (posL s).length c4, Value.int IntKind.i64 ↑(posL s).length, Value.bool false, Value.bool false, Value.slice A4 (posL s).length c4, Value.int IntKind.i64 ↑(posL s).length, Value.slice A4 (posL s).length c4, Value.int IntKind.i64 ↑(posL s).length, Value.int IntKind.i64 ↑(posL s).length, Value.bool false, u72, u73, u74, u75, u76, u77, u78, u79, u80, u81, u82, u83, u84, u85, u86, u87, u88, u89, u90, u91, u92, u93, u94, u95, u96, u97, u98, u99, u100, u101, u102, u103, u104, u105, u106, u107, Value.func (Fn.func 32) #[] #[Value.pointer (some { block := W0.heap.size, off := 0 })], .int .i64 (x : Nat), stepV s x, undef, undef, undef, undef, undef, undef, undef, undef, undef, undef, undef, undef, undef, undef, undef, undef, undef, undef, undef, undef, undef, undef, undef, undef, undef, undef, undef, undef, undef], defers := [] }) ?assign ?body ?done ?stop
      case assign =>
        intro l x W K hK
        simp only [stepEncs]
        gi_wp2
        exact hK
      case body =>
        rintro l pre x W ⟨⟨hbx, hpr⟩, hbel⟩ hlen
        have cB := hbx.cell
        have fB := hbx.frozen
        have eB : W.cell? ⟨w.heap.size, 0, none⟩ = some (.int .i64 early) := (hbel.cell (p := ⟨w.heap.size, 0, none⟩) HEr.out.lt).trans HEr.out.cell
        have hne : ¬ (w.heap.size = wr.heap.size) := by have := HEr.out.lt; omega
        have eB2 : (W.setCell ⟨wr.heap.size, 0, none⟩ (.int .i64 (pre.length + 1))).cell? ⟨w.heap.size, 0, none⟩ = some (.int .i64 early) := by
          rw [World.cell?_of_block (Below.heap_setCell W ⟨wr.heap.size, 0, none⟩ _ w.heap.size hne)]; exact eB
        gi_wp2
        · have hle : early ≤ (pre.length : Int) + 1 := by assumption
          exact ⟨(KeepsOthers.setCell _ _ _).from _, ⟨rfl, by simp, by rw [List.length_append, List.length_singleton]; omega, by simpa using hbx.set (.int .i64 (pre.length + 1))⟩, hbel.setCell (p := ⟨wr.heap.size, 0, none⟩) (Nat.le_refl _) _⟩
        · have hle : (pre.length : Int) + 1 < early := by assumption
          exact ⟨(KeepsOthers.setCell _ _ _).from _, ⟨(Below.refl _ W).setCell (p := ⟨wr.heap.size, 0, none⟩) (Nat.le_refl _) _, (KeepsOthers.setCell _ _ _).walks⟩, ⟨by simpa using hbx.set (.int .i64 (pre.length + 1)), .inr (by rw [List.length_append, List.length_singleton]; omega)⟩, hbel.setCell (p := ⟨wr.heap.size, 0, none⟩) (Nat.le_refl _) _⟩
      case done =>
        rintro D ys W hD rfl ⟨⟨hbx, hpr⟩, hbel⟩ hK
        have cB := hbx.cell
        have eB : W.cell? ⟨w.heap.size, 0, none⟩ = some (.int .i64 early) := (hbel.cell (p := ⟨w.heap.size, 0, none⟩) HEr.out.lt).trans HEr.out.cell
        have HWb := Lib.hid (HWw.out.trans (hbel.mono HWw.out.size))
        have HRr := Lib.hid (Kd.C_below HR9.out hbel)
        go_wp2_with fail
        refine (runes_calls A c s W (HY.out.below HWb.out) (by omega)).mono ?_
        rintro e W11 ⟨v, rfl, hR, h11⟩
        obtain ⟨Av, cv, rfl, hRv⟩ := runs_of_R hR
        have H11 := Lib.hid h11
        have HRv := Lib.hid hRv
        have HrL := Lib.hid (runesL_length s)
        clear hR h11 hRv
        go_wp2_with fail
        refine (same_calls Av A9 cv c9 (runesL s) _ (by rw [HrL.out]; omega) HRv.out (Kd.C_below HRr.out H11.out)).mono ?_
        rintro e W12 ⟨rfl, h12⟩
        have H12 := Lib.hid (H11.out.trans (h12.mono H11.out.size))
        clear h12
        go_wp2_with fail
        refine (valid_calls A c s _ (HY.out.below (HWb.out.trans (H12.out.mono HWb.out.size))) (by omega)).mono ?_
        rintro e W13 ⟨rfl, h13⟩
        have H13 := Lib.hid (H12.out.trans (h13.mono H12.out.size))
        clear h13
        go_wp2_with fail
        refine (refValid_calls A c s _ (HY.out.below (HWb.out.trans (H13.out.mono HWb.out.size))) hs).mono ?_
        rintro e W14 ⟨rfl, h14⟩
        have H14 := Lib.hid (H13.out.trans (h14.mono H13.out.size))
        have cB14 := cell_stays H14.out cB
        have eB14 := cell_stays H14.out eB
        generalize validB s = vb
        clear h14 cB eB
        go_wp2_with fail
        all_goals
          have hK2 : W14.heap[D]? = some (.deferred (some [])) := (H14.out.block D (Array.getElem?_eq_some_iff.1 hK).1).trans hK
          refine ⟨by simp, .inl ⟨_, _, rfl, run_takeDeferred hK2, ?_⟩⟩
          exact ⟨_, results_tmp rfl _ _ _, rfl, (HWb.out.trans (H14.out.mono HWb.out.size)).trans (belowK_b (w := w) (Nat.le_refl _) W14 D _ _ (by have := HWw.out.size; omega) hK2 rfl rfl)⟩
      case stop =>
        rintro D cd pre W hD ⟨hpne, hpre⟩ ⟨⟨rfl, hne, hcond, hbx⟩, hbel⟩ hK
        have cB := hbx.cell
        have eB : W.cell? ⟨w.heap.size, 0, none⟩ = some (.int .i64 early) := (hbel.cell (p := ⟨w.heap.size, 0, none⟩) HEr.out.lt).trans HEr.out.cell
        have hple := hpre.length_le
        have t1 : (((posL s).length : Int) == 0) = false := beq_eq_false_iff_ne.2 (by omega)
        have t2 : ((pre.length : Int) == 0) = false := beq_eq_false_iff_ne.2 (by omega)
        have t3 : ¬ ((posL s).length : Int) = 0 := by omega
        have t4 : ¬ (pre.length : Int) = 0 := by omega
        have t5 : ¬ posL s = [] := by intro h; rw [h] at hple; simp at hple; exact hne (by rw [hple]; rfl)
        have t6 : ¬ pre = [] := by intro h; exact hne (by rw [h]; rfl)
        clear hpne hpre
        refine wpIn_wide.2 ?_
        have HWb := Lib.hid (HWw.out.trans (hbel.mono HWw.out.size))
        have HRr := Lib.hid (Kd.C_below HR9.out hbel)
        go_wp2_with fail
        refine (runes_calls A c s W (HY.out.below HWb.out) (by omega)).mono ?_
        rintro e W11 ⟨v, rfl, hR, h11⟩
        obtain ⟨Av, cv, rfl, hRv⟩ := runs_of_R hR
        have H11 := Lib.hid h11
        have HRv := Lib.hid hRv
        have HrL := Lib.hid (runesL_length s)
        clear hR h11 hRv
        go_wp2_with fail
        refine (same_calls Av A9 cv c9 (runesL s) _ (by rw [HrL.out]; omega) HRv.out (Kd.C_below HRr.out H11.out)).mono ?_
        rintro e W12 ⟨rfl, h12⟩
        have H12 := Lib.hid (H11.out.trans (h12.mono H11.out.size))
        clear h12
        go_wp2_with fail
        refine (valid_calls A c s _ (HY.out.below (HWb.out.trans (H12.out.mono HWb.out.size))) (by omega)).mono ?_
        rintro e W13 ⟨rfl, h13⟩
        have H13 := Lib.hid (H12.out.trans (h13.mono H12.out.size))
        clear h13
        go_wp2_with fail
        refine (refValid_calls A c s _ (HY.out.below (HWb.out.trans (H13.out.mono HWb.out.size))) hs).mono ?_
        rintro e W14 ⟨rfl, h14⟩
        have H14 := Lib.hid (H13.out.trans (h14.mono H13.out.size))
        have cB14 := cell_stays H14.out cB
        have eB14 := cell_stays H14.out eB
        generalize validB s = vb
        clear h14 cB eB
        go_wp2_with fail
        all_goals
          have hK2 : W14.heap[D]? = some (.deferred (some [])) := (H14.out.block D (Array.getElem?_eq_some_iff.1 hK).1).trans hK
          refine ⟨by simp, .inl ⟨_, _, rfl, run_takeDeferred hK2, ?_⟩⟩
          exact ⟨_, results_tmp rfl _ _ _, rfl, (HWb.out.trans (H14.out.mono HWb.out.size)).trans (belowK_b (w := w) (Nat.le_refl _) W14 D _ _ (by have := HWw.out.size; omega) hK2 rfl rfl)⟩
end Go.Proofs.YtcnbfpmognijcaaDoor
