/- The walk of StepKeeps (under way). -/
import Derived.Test.YtcnbfpmognijcaaDoorKeepsReg
import Derived.Test.YtcnbfpmognijcaaDoorManyB
import Derived.Test.YtcnbfpmognijcaaDoorKeepsL
import Derived.Deep.CutRange
namespace Go.Proofs.YtcnbfpmognijcaaDoor
open Go.RowKit Go.Shelf Galley Go.Proofs.YtcnbfpmognijcaaDoorW.PrintWords Go.Many
attribute [local go_sem ↓] field0 field1 field2
attribute [local go_sem] Oper.semAt_some

theorem inBlock_meets {id : Nat} {K : Act → World → Prop} {Q : Exit → Act → World → Prop} {e : Exit} {a : Act} {W : World} (he : e = .normal ∨ e = .exit id) (h : Exit.inBlock id (Exit.then K Q) .normal a W) : Exit.inBlock id (Exit.then K Q) e a W := by
  rcases he with rfl | rfl
  · exact h
  · simpa [Exit.inBlock, Exit.then] using h
theorem infoRow32 : (Tryd.prog.info? 33).map (fun i => (i.zero, i.size, i.bytes)) = some (some (.slice none 0 0), 1, 24) := by kernel_rfl
set_option maxRecDepth 100000 in
set_option maxHeartbeats 4000000 in
theorem keeps_walk (A : Option Addr) (c : Nat) (s : ByteArray) (w : World) (hg : BadLies w) (hb : Byt w A c s) (hs : s.size ≤ 1073741824) :
    Calls Tryd.prog 9 #[.slice A s.size c] w fun e w' => e = .returned (.bool true) ∧ Below w.heap.size w w' := by
  have hlt := hg.lt
  have HG := Lib.hid hg
  have HY := Lib.hid hb
  have hpl := posL_length s
  clear hg hb
  have hnf := func_nil
  obtain ⟨u0, hu0, hu1, hu2, hu3⟩ := info_parts infoU8
  refine (callsIn_wide (n := 3)).1 ?_
  refine callsIn_of_wp_marks Tryd.func9 rfl trivial ?_ rfl
  refine wpIn_wide.2 ?_
  simp only [Tryd.ntmps9, List.size_toArray, List.length_cons, List.length_nil, Nat.reduceAdd, Nat.reduceSub, Array.replicate_succ, Array.replicate_zero, List.push_toArray, List.append_toArray, List.nil_append, List.cons_append]
  go_wp2_with fail
  obtain ⟨W0, hW0⟩ : ∃ W0, W0 = w.alloc (.cells #[.bool false] 4) := ⟨_, rfl⟩
  have h00 : Below w.heap.size w W0 := by rw [hW0]; exact (Below.refl _ w).alloc (Nat.le_refl _) _
  have hE0 : Boxed W0 w.heap.size 4 (.bool false) := by rw [hW0]; exact Boxed.new w 4 _
  rw [← hW0]
  have H0 := Lib.hid h00
  have HE0 := Lib.hid hE0
  clear hW0 h00 hE0
  refine (fixed_calls _ (HG.out.below H0.out hlt)).mono ?_
  rintro e W1 ⟨rfl, h1⟩
  have HB1 := Lib.hid h1
  have H1 := Lib.hid (H0.out.trans (h1.mono H0.out.size))
  clear h1
  have HY1 := Lib.hid (HY.out.below H1.out)
  have hz1 : w.heap.size < W1.heap.size := by have := HE0.out.lt; have := HB1.out.size; omega
  go_wp2_with (first
    | (at_make; refine wpList_make_own _ rfl _ _ 22 rfl W1.heap.size 5 u0 (.int .u8 0) 1 Tryd.underlying22 hu0 hu1 hu2 .i64 .i64 _ (s.size + 3) rfl rfl (by omega) (by rw [hu3]; omega) (by unfold maxLen; omega) (Nat.le_refl _) ?_; intro W2 own2 gr2)
    | (at_builtin; refine wpList_append_bytes _ rfl (.tmp 36) (.tmp 37) 22 rfl W1.heap.size 5 u0 Tryd.underlying22 hu0 hu2 W1.heap.size 0 (s.size + 3) [] (by simp [Act.eval]) own2 A c s.size s (by simp [Act.eval]) rfl (fun e => by subst e; exact HY1.out.nil) ((HY1.out.below ⟨gr2.os, gr2.tape, gr2.output, gr2.size, fun k hk => gr2.block k hk (by simp)⟩).cells) (by omega) ?_; intro W3 own3 gr3)
    | (at_builtin; refine wpList_append_bytes _ rfl (.tmp 38) (.tmp 39) 22 rfl W1.heap.size 5 u0 Tryd.underlying22 hu0 hu2 W1.heap.size (0 + s.size) (s.size + 3) _ (by simp [Act.eval]) (own3.alloc _) (some ⟨W3.heap.size, 0, none⟩) 3 3 tri (by simp [Act.eval]) rfl (fun e => by cases e) (fun ad e => by cases e; exact World.news_of_block (World.alloc_heap_new W3 _)) (by omega) ?_; intro W4 own4 gr4))
  obtain ⟨R, hR⟩ : ∃ R, R = W1.heap.size := ⟨_, rfl⟩
  have B14 : Below W1.heap.size W1 W4 := ((((Below.refl _ W1).grown gr2 (Nat.le_refl _) (fun k e => by cases e)).grown gr3 gr2.size (fun k e => by cases e; exact Nat.le_refl _)).alloc (Nat.le_trans gr2.size gr3.size) _).grown gr4 (by have := gr2.size; have := gr3.size; simp; omega) (fun k e => by cases e; exact Nat.le_refl _)
  have own : W4.ownsRow R 5 1 (.slice (some ⟨R, 0, none⟩) (s.size + 3) (s.size + 3)) (s.size + 3) (byteV s ++ byteV tri) := by rw [hR]; simpa using own4
  rw [← hR]
  have H4 := Lib.hid (H1.out.trans (B14.mono H1.out.size))
  have HB14 := Lib.hid B14
  have hwR : w.heap.size < R := by omega
  have hRW4 : R < W4.heap.size := (own_here own (g := R) rfl).2.1
  have OWN := Lib.hid own
  have HR := Lib.hid hR
  have BY4 := Lib.hid (byt_room own (by omega))
  have BY4d : Hid (Byt W4.drew (some ⟨R, 0, none⟩) (s.size + 3) s) := ⟨BY4.out.reads, BY4.out.cap, BY4.out.small⟩
  clear own2 own3 own4 gr2 gr3 gr4 B14 own hR
  refine Code.wp_mono (Q := fun e a wx => match e with | .normal => ∃ (z43 z44 z45 z46 z47 z48 z49 z50 : Value) (X5 BA BB : Nat) (A' : Option Addr) (c' : Nat), a = { tmps := #[.slice A s.size c, undef, .pointer (some ⟨w.heap.size, 0, none⟩), .slice (some ⟨R, 0, none⟩) (s.size + 3) (s.size + 3), .int .i64 s.size, .pointer (some ⟨X5, 0, none⟩), .func (.func 38) #[] #[.pointer (some ⟨BB, 0, none⟩)], undef, undef, undef, undef, undef, undef, undef, undef, undef, undef, undef, undef, undef, undef, undef, undef, undef, undef, undef, undef, undef, undef, undef, undef, .bool true, .bool false, .slice A s.size c, .int .i64 s.size, .int .i64 (s.size + 3), .slice (some ⟨R, 0, none⟩) 0 (s.size + 3), .slice A s.size c, .slice (some ⟨R, 0, none⟩) s.size (s.size + 3), .slice (some ⟨W3.heap.size, 0, none⟩) 3 3, .slice (some ⟨R, 0, none⟩) (s.size + 3) (s.size + 3), .slice A s.size c, .int .i64 s.size, z43, z44, z45, z46, z47, z48, z49, z50, undef, undef, undef, undef, undef, undef, undef, undef, undef, undef, undef, undef, undef, undef, undef, undef, undef, undef, undef, undef, undef, undef, undef, undef, undef, undef, undef, undef, undef, undef, undef, undef, undef, undef, undef, undef, undef, undef, undef, undef, undef, undef, undef, undef, undef, undef, undef, undef, undef, undef, undef, undef, undef, undef, undef, undef, undef, undef, undef, undef, undef, undef, undef, undef, undef, undef, undef, undef, undef, undef, undef, undef, undef, undef, undef, undef, undef, undef, undef, undef, undef, undef, undef, undef, undef, undef, undef, undef, undef, undef, undef, undef, undef, undef, undef, undef, undef, undef, undef, undef, undef, undef, undef, undef, undef, undef, undef, undef, undef, undef, undef, undef, undef, undef, undef, undef, undef, undef, undef, undef, undef, undef, undef, undef, undef, undef, undef, undef, undef, undef, undef, undef, undef, undef, undef, undef, undef, undef, undef, undef, undef, undef, undef, undef, undef, undef, undef, undef, undef, undef, undef, undef, undef, undef, undef, undef, undef, undef, undef, undef, undef, undef, undef, undef, undef, undef, undef, undef, undef, undef, undef, undef, undef, undef, undef, undef, undef, undef, undef, undef, undef, undef, undef], defers := [] } ∧ Boxed wx X5 29 (.func (.func 32) #[] #[.pointer (some ⟨BA, 0, none⟩)]) ∧ wx.cell? ⟨BA, 0, none⟩ = some (.string s) ∧ wx.cell? ⟨BB, 0, none⟩ = some (.slice A' s.size c') ∧ Byt wx A' c' s ∧ R < BA ∧ R < BB ∧ R < X5 ∧ (∃ g, A' = some ⟨g, 0, none⟩ ∧ R < g) ∧ Below W4.heap.size W4 wx | _ => False) ?rest ?region
  case region =>
    exact keeps_reg R s W4 hs BY4.out hRW4 (fun z43 z44 z45 z46 z47 z48 z49 z50 X5 BA BB A' c' wx q1 q2 q3 q4 q5 q6 q7 q8 q9 => ⟨z43, z44, z45, z46, z47, z48, z49, z50, X5, BA, BB, A', c', rfl, q1, q2, q3, q4, q5, q6, q7, q8, q9⟩) (fun _ _ _ => rfl)
  case rest =>
    intro e a wx hq
    cases e with
    | normal =>
      rename_i a0
      obtain ⟨z43, z44, z45, z46, z47, z48, z49, z50, X5, BA, BB, A', c', rfl, p1, p2, p3, p4, p5, p6, p7, p8, p9⟩ := hq
      have P1 := Lib.hid p1
      have P2 := Lib.hid p2
      have P3 := Lib.hid p3
      have P4 := Lib.hid p4
      have P9 := Lib.hid p9
      have P8 := Lib.hid p8
      have H5 := Lib.hid (H4.out.trans (p9.mono H4.out.size))
      have OWN5 := Lib.hid (own_stays OWN.out (w' := wx) (fun g e => p9.block g (own_here OWN.out e).2.1))
      have BY5 := Lib.hid (BY4.out.below p9)
      have hk5 : W4.heap.size ≤ wx.heap.size := p9.size
      have hz5 : w.heap.size ≤ wx.heap.size := H5.out.size
      obtain ⟨r0, hr0, hr1, hr2, hr3⟩ := info_parts infoI32
      obtain ⟨l0, hl0, hl1, hl2, hl3⟩ := info_parts infoRow32
      clear p1 p2 p3 p4 p8 p9
      refine a0 _ _ ?_
      go_wp2_with fail
      go_loopw [7, 8] (fun v i wr => ∃ (k : Nat) (ys : List Value), i = .int .i64 k ∧ k ≤ 5 ∧ ys.length = k ∧ Rw 21 wr wx.heap.size ys (fun _ xs => xs.length = (posL s).length) ∧ Apart ys ∧ wr.ownsRow wx.heap.size 33 1 v k ys ∧ Below wx.heap.size wx wr) (fun _ i _ => 5 - (intOf i).toNat)
      case atStart => exact ⟨0, [], rfl, Nat.zero_le _, rfl, fun i v hi => by simp at hi, fun i j v u g hi => by simp at hi, World.ownsRow_nil _ _ _ _, Below.refl _ _⟩
      case round =>
        obtain ⟨k, ys, rfl, hk, hys, hV, hU, hA, hL⟩ := hrel
        replace hV := Lib.hid hV
        replace hU := Lib.hid hU
        replace hA := Lib.hid hA
        replace hL := Lib.hid hL
        by_cases hkl : k < 5
        · go_wp2_with fail
          refine (runes_calls (some ⟨R, 0, none⟩) (s.size + 3) s wr (BY5.out.below hL.out) (by omega)).mono ?_
          rintro e x1 ⟨v, rfl, hR, hB⟩
          have own1 := Kd.own_of_R hR
          rw [runesL_length] at own1
          obtain ⟨Av, cv, rfl, _⟩ := Many.own_slice own1
          have hel : (encs (Value.int .i32) (runesL s)).length = (posL s).length := by unfold encs; rw [List.length_map, runesL_length]
          have own2 : x1.ownsRow wx.heap.size 21 1 (.slice Av (posL s).length cv) (encs (Value.int .i32) (runesL s)).length (encs (Value.int .i32) (runesL s)) := by
            rw [hel]; exact row_mono own1 (show wx.heap.size ≤ wr.heap.size from hL.out.size)
          have V1 := Lib.hid ((hV.out.below hB).snoc own2 hel)
          have U1 := Lib.hid (hU.out.snoc (S := wr.heap.size) hV.out.under (v := .slice Av (posL s).length cv) (fun g e => (own_here own1 e).1))
          have A1 := Lib.hid (but_row (But.of_below hB) (e := 3) (by decide) hA.out)
          have L1 := Lib.hid (hL.out.trans (hB.mono hL.out.size))
          clear hR hB own1 own2 hel
          go_wp2_with (at_builtin; refine wpList_append_two _ rfl (.tmp 55) (.tmp 60) 54 rfl wx.heap.size 33 l0 (.slice none 0 0) 24 Tryd.underlying54 hl0 hl1 hl2 hl3 rfl _ k ys rfl (A1.out.alloc _) (.slice Av (posL s).length cv) x1.heap.size rfl (by simp) rfl (by omega) (by decide) (by have := L1.out.size; simp; omega) ?_; intro v' x2 hown' hcase)
          obtain ⟨k1, k2, k3⟩ := two_but (A1.out.alloc _) hcase
          have D1 : Below x1.heap.size x1 (x1.alloc (.cells #[.slice Av (posL s).length cv] 33)) := (Below.refl _ _).alloc (Nat.le_refl _) _
          have V2 := Lib.hid (rw_but V1.out ((But.of_below D1).trans k1) (by decide))
          have L2 := Lib.hid (k3 (L1.out.trans (D1.mono L1.out.size)) (by have := L1.out.size; have := D1.size; omega) (Nat.le_refl _))
          have HO := Lib.hid hown'
          clear hown' hcase k1 k2 k3 D1
          go_roundw
          case rel => exact ⟨k + 1, ys ++ [.slice Av (posL s).length cv], by go_num, by omega, by simp [hys], V2.out, U1.out, HO.out, L2.out⟩
          case measure => simp [intOf]; omega
        · obtain rfl : k = 5 := by omega
          obtain ⟨wl, hwl⟩ : ∃ wl, wl = wr := ⟨_, rfl⟩
          subst hwl
          have HGl : Hid (BadLies wl) := HG.out.below (H5.out.trans (hL.out.mono H5.out.size)) hlt
          go_wp2_with fail
          refine (valid_calls (some ⟨R, 0, none⟩) (s.size + 3) s wl (BY5.out.below hL.out) (by omega)).mono ?_
          rintro e x1 ⟨rfl, hB⟩
          have L1 := Lib.hid (hL.out.trans (hB.mono hL.out.size))
          have V1 := Lib.hid (hV.out.below hB)
          have A1 := Lib.hid (but_row (But.of_below hB) (e := 3) (by decide) hA.out)
          have G1 := Lib.hid (HGl.out.below hB HGl.out.lt)
          have hBl := Lib.hid hB
          clear hB
          go_wp2_with fail
          refine (floor_in (some ⟨R, 0, none⟩) (s.size + 3) s ((s.size : Int) / 2) x1 G1.out ((BY5.out.below hL.out).below hBl.out) (by omega) (by omega)).mono ?_
          rintro e x2 ⟨rfl, hB⟩
          have L2 := Lib.hid (L1.out.trans (hB.mono L1.out.size))
          have V2 := Lib.hid (V1.out.below hB)
          have A2 := Lib.hid (but_row (But.of_below hB) (e := 3) (by decide) A1.out)
          have G2 := Lib.hid (G1.out.below hB G1.out.lt)
          have OWN2 := Lib.hid (own_stays OWN5.out (w' := x2) (fun g e => L2.out.block g (own_here OWN5.out e).2.1))
          have st1 := room_str OWN2.out (by rw [ByteArray.size_append]; show s.size + 3 ≤ _; omega)
          have st2 := (HY.out.below (H5.out.trans (L2.out.mono H5.out.size))).str
          have nfA : x2.cell? ⟨X5, 0, none⟩ = some (.func (.func 32) #[] #[.pointer (some ⟨BA, 0, none⟩)]) := cell_stays L2.out P1.out.cell
          unfold tri at st1
          clear hB
          go_wp2_with fail
          go_loopw [88] (fun i wr => ∃ (k : Nat) (xs : List Value), i = .int .i64 k ∧ k ≤ s.size + 3 ∧ x2.grownBy wr (some R) ∧ wr.ownsRow R 5 1 (.slice (some ⟨R, 0, none⟩) (s.size + 3) (s.size + 3)) (s.size + 3) xs) (fun i _ => s.size + 3 - (intOf i).toNat)
          case atStart => exact ⟨0, _, rfl, Nat.zero_le _, World.grownBy.refl _ _, OWN2.out⟩
          case round =>
            obtain ⟨k, xs, rfl, hk3, hgr, hro⟩ := hrel
            by_cases hkl3 : k < s.size + 3
            · have hxl : xs.length = s.size + 3 := by have := hro.1; omega
              obtain ⟨c1, f1⟩ := own_cell hro (List.getElem?_eq_getElem (show k < xs.length by omega))
              obtain ⟨y, hy⟩ : ∃ y, xs[k]'(by omega) = y := ⟨_, rfl⟩
              rw [hy] at c1
              have n1 := Lib.hid (hgr.trans (grown_set wr R k (.int .u8 120)))
              have n2 := Lib.hid (own_set (c := .int .u8 120) (j := k) hro)
              clear hy hgr hro
              go_wp2_with fail
              go_roundw
              case rel => exact ⟨k + 1, _, by go_num, by omega, n1.out, n2.out⟩
              case measure => simp [intOf]; omega
            · obtain rfl : k = s.size + 3 := by omega
              obtain ⟨x3, hx3⟩ : ∃ x3, x3 = wr := ⟨_, rfl⟩
              subst hx3
              have B52 : Below wx.heap.size wx x2 := L2.out
              have hxR : R < wx.heap.size := by omega
              have hs23 : x2.heap.size ≤ x3.heap.size := hgr.size
              have blk : ∀ m, m < x2.heap.size → m ≠ R → x3.heap[m]? = x2.heap[m]? := fun m hm hne => hgr.block m hm (fun e => hne (by cases e; rfl))
              have hx5 : X5 < wx.heap.size := P1.out.lt
              have E1 : Boxed x3 X5 29 (.func (.func 32) #[] #[.pointer (some ⟨BA, 0, none⟩)]) := (blk X5 (by have := B52.size; omega) (by omega)).trans ((B52.block _ hx5).trans P1.out)
              have hBA := World.block_lt_of_cell? wx _ P2.out
              have hBB := World.block_lt_of_cell? wx _ P3.out
              dsimp only at hBA hBB
              have E2 : x3.cell? ⟨BA, 0, none⟩ = some (.string s) := (World.cell?_of_block (a := ⟨BA, 0, none⟩) (blk BA (by have := B52.size; omega) (by omega))).trans (cell_stays B52 P2.out)
              have E3 : x3.cell? ⟨BB, 0, none⟩ = some (.slice A' s.size c') := (World.cell?_of_block (a := ⟨BB, 0, none⟩) (blk BB (by have := B52.size; omega) (by omega))).trans (cell_stays B52 P3.out)
              have E4 : Byt x3 A' c' s := by
                obtain ⟨g, rfl, hg⟩ := P8.out
                exact byt_move (P4.out.below B52) ((byt_lt P4.out).imp id (fun h => blk g (by have := B52.size; omega) (by omega)))
              have E5 := V2.out.far hgr (fun i v g hi hv e => by
                cases e
                obtain ⟨xs', h1, _⟩ := V2.out i v hi
                have := (own_here h1 hv).1
                omega)
              have E6 := own_stays A2.out (w' := x3) (fun g e => by
                have h1 := own_here A2.out e
                exact blk g h1.2.1 (by omega))
              have H3 : Below w.heap.size w x3 := (H5.out.trans (B52.mono H5.out.size)).grown hgr (by have := B52.size; omega) (fun k e => by cases e; omega)
              have hres : Boxed wx w.heap.size 4 (.bool false) := by
                have h1 := HE0.out.lt
                have h2 := HB1.out.size
                have hRR := HR.out
                exact (P9.out.block _ (by omega)).trans ((HB14.out.block _ (by omega)).trans ((HB1.out.block _ h1).trans HE0.out))
              have E7 : Boxed x3 w.heap.size 4 (.bool false) := (blk _ (by have := hres.lt; have := B52.size; omega) (by omega)).trans ((B52.block _ hres.lt).trans hres)
              have G3 : Hid (BadLies x3) := HG.out.below H3 hlt
              have hz3 : wx.heap.size ≤ x3.heap.size := by have := B52.size; omega
              replace E1 := Lib.hid E1
              replace E2 := Lib.hid E2
              replace E3 := Lib.hid E3
              replace E4 := Lib.hid E4
              replace E5 := Lib.hid E5
              replace E6 := Lib.hid E6
              replace E7 := Lib.hid E7
              replace H3 := Lib.hid H3
              clear blk hgr hro hres B52 st1 st2 nfA hs23 hBA hBB hx5
              go_wp2_with fail
              refine (refSteps_calls A c s x3 (HY.out.below H3.out) hs).mono ?_
              rintro e x4 ⟨v4, rfl, hr4, hB4⟩
              obtain ⟨A7, c7, rfl, hS4⟩ := steps_of_row hr4
              obtain ⟨x5, hx5⟩ : ∃ x5, x5 = x4.alloc (.cells #[.slice A7 (posL s).length c7] 36) := ⟨_, rfl⟩
              have hB5 : Below x4.heap.size x4 x5 := by rw [hx5]; exact (Below.refl _ _).alloc (Nat.le_refl _) _
              have F10 : Boxed x5 x4.heap.size 36 (.slice A7 (posL s).length c7) := by rw [hx5]; exact Boxed.new x4 _ _
              have B35 := Lib.hid (hB4.trans (hB5.mono hB4.size))
              have S5 := Lib.hid (hS4.below hB5)
              have zz45 : x4.heap.size < x5.heap.size := F10.lt
              replace F10 := Lib.hid F10
              have HX5 := Lib.hid hx5
              clear hr4 hB4 hS4 hB5 hx5
              go_wp2_with fail
              rw [← HX5.out]
              go_loopw [11] (fun i wr => ∃ k : Nat, i = .int .i64 k ∧ k ≤ 3 ∧ Below x5.heap.size x5 wr) (fun i _ => 3 - (intOf i).toNat)
              case atStart => exact ⟨0, rfl, Nat.zero_le _, Below.refl _ _⟩
              case round =>
                obtain ⟨k, rfl, hk3, hL3⟩ := hrel
                have hT : Below x3.heap.size x3 wr := B35.out.trans (hL3.mono B35.out.size)
                have dX := cell_stays hT E1.out.cell
                have dA := cell_stays hT E2.out
                have dB := cell_stays hT E3.out
                have dY := Lib.hid (E4.out.below hT)
                have dG : Hid (BadLies wr) := G3.out.below hT G3.out.lt
                have d10 := cell_stays hL3 F10.out.cell
                have dS := Lib.hid (S5.out.below hL3)
                have HL3 := Lib.hid hL3
                clear hT hL3
                by_cases hkl3 : k < 3
                · go_wp2_with fail
                  refine (gone_all BA s hs wr dA dG.out).mono ?_
                  rintro e y1 ⟨A3, c3, A4, c4, rfl, hG4, h4⟩
                  have e3 := cell_stays h4 dB
                  have eY := Lib.hid (dY.out.below h4)
                  have eG : Hid (BadLies y1) := dG.out.below h4 dG.out.lt
                  have e10 := cell_stays h4 d10
                  have G4' := Lib.hid hG4
                  have H4' := Lib.hid h4
                  clear hG4 h4 dX dA dB
                  go_wp2_with fail
                  refine (gone_back BB A' c' s hs y1 e3 eY.out eG.out).mono ?_
                  rintro e y2 ⟨A5, c5, A6, c6, rfl, hG5, h5⟩
                  have f10 := cell_stays h5 e10
                  have G5' := Lib.hid hG5
                  have g4S : StepsAt y2 A4 s (posL s) := StepsAt.below (w := y1) (fun j q h => G4'.out.steps j q h) h5
                  have H5' := Lib.hid (H4'.out.trans (h5.mono H4'.out.size))
                  replace g4S := Lib.hid g4S
                  clear hG5 h5 e3 e10
                  go_wp2_with fail
                  refine (refSame_calls A4 A7 c4 c7 s (posL s) y2 (by omega) g4S.out (dS.out.below H5'.out)).mono ?_
                  rintro e y3 ⟨rfl, h6⟩
                  have k10 := cell_stays h6 f10
                  have H6' := Lib.hid (H5'.out.trans (h6.mono H5'.out.size))
                  have G6' : Hid (StepsAt y3 A6 s (posL s).reverse) := StepsAt.below (w := y2) (fun j q h => G5'.out.steps j q h) h6
                  have S6' := Lib.hid (dS.out.below H6'.out)
                  clear h6 f10
                  go_wp2_with fail
                  obtain ⟨wy, hwy⟩ : ∃ wy, wy = wr := ⟨_, rfl⟩
                  subst hwy
                  go_loopw [124] (fun i wr => ∃ j : Nat, i = .int .i64 j ∧ j ≤ (posL s).length ∧ Below y3.heap.size y3 wr) (fun i _ => (posL s).length - (intOf i).toNat)
                  case atStart => exact ⟨0, rfl, Nat.zero_le _, Below.refl _ _⟩
                  case round =>
                    obtain ⟨j, rfl, hj, hL4⟩ := hrel
                    by_cases hjl : j < (posL s).length
                    · obtain ⟨m, hm⟩ : ∃ m : Nat, (posL s).length = m + 1 + j := ⟨(posL s).length - 1 - j, by omega⟩
                      obtain ⟨q, hq⟩ : ∃ q, (posL s)[j]? = some q := ⟨_, List.getElem?_eq_getElem hjl⟩
                      have hqr : (posL s).reverse[m]? = some q := by
                        rw [List.getElem?_reverse (by omega), show (posL s).length - 1 - m = j by omega]; exact hq
                      obtain ⟨g6, rfl, m1, m2, m3⟩ := (G6'.out.below hL4) m q hqr
                      obtain ⟨g7, rfl, n1, n2, n3⟩ := (S6'.out.below hL4) j q hq
                      have p10 := cell_stays hL4 k10
                      have hmj : ((posL s).length : Int) - 1 - j = m := by omega
                      have hml : m < (posL s).length := by omega
                      obtain ⟨rq, hrq⟩ : ∃ r : Int, (rune s q : Int) = r := ⟨_, rfl⟩
                      obtain ⟨wq, hwq⟩ : ∃ r : Int, (width s q : Int) = r := ⟨_, rfl⟩
                      rw [hrq] at m1 n1
                      rw [hwq] at m2 n2
                      generalize whole s q = wh at m3 n3
                      have HLL := Lib.hid hL4
                      have HMM : Hid ((posL s).length = m + 1 + j) := hm
                      clear hq hqr hm hrq hwq hL4
                      go_wp2_with fail
                      go_quiet (fail)
                      have HLd : Hid (Below y3.heap.size y3 (wr.drewN nq)) := ⟨HLL.out.os, HLL.out.tape, HLL.out.output, HLL.out.size, HLL.out.block⟩
                      go_wp2_with fail
                      go_roundw
                      case rel => exact ⟨j + 1, by go_num, by omega, HLd.out⟩
                      case measure => simp [intOf]; omega
                    · obtain rfl : j = (posL s).length := by omega
                      have Lr := Lib.hid (HL3.out.trans ((H6'.out.trans (hL4.mono H6'.out.size)).mono HL3.out.size))
                      go_wp2_with fail
                      go_roundw
                      case rel => exact ⟨k + 1, by go_num, by omega, Lr.out⟩
                      case measure => simp [intOf]; omega
                · obtain rfl : k = 3 := by omega
                  obtain ⟨wm, hwm⟩ : ∃ wm, wm = wr := ⟨_, rfl⟩
                  subst hwm
                  have bX : X5 < wm.heap.size := World.block_lt_of_cell? wm _ dX
                  have bA : BA < wm.heap.size := World.block_lt_of_cell? wm _ dA
                  go_wp2_with fail
                  refine (wpIn_wide (n := 3)).1 ?_
                  obtain ⟨z0, hz0⟩ : ∃ z0, wm.alloc (.cells #[.int .i64 0] 3) = z0 := ⟨_, rfl⟩
                  have bC : Boxed z0 wm.heap.size 3 (.int .i64 0) := by rw [← hz0]; exact Boxed.new wm 3 _
                  have hBz : Below wm.heap.size wm z0 := by rw [← hz0]; exact (Below.refl _ wm).alloc (Nat.le_refl _) _
                  have hsz : z0.heap.size = wm.heap.size + 1 := by rw [← hz0]; simp
                  rw [hz0]
                  clear hz0
                  have dG0 : Hid (BadLies z0) := dG.out.below hBz dG.out.lt
                  have HBZ := Lib.hid hBz
                  refine wpIn_wide.2 ?_
                  refine Code.wp_mono (Q := fun e a W => (e = .normal ∨ e = .exit 8) ∧ ∃ D, a = { tmps := #[Value.slice A s.size c, undef, Value.pointer (some { block := w.heap.size, off := 0 }), Value.slice (some { block := R, off := 0 }) (s.size + 3) (s.size + 3), Value.int IntKind.i64 (s.size : Int), Value.pointer (some { block := X5, off := 0 }), Value.func (Fn.func 38) #[] #[Value.pointer (some { block := BB, off := 0 })], u7, Value.int IntKind.i64 5, u9, Value.pointer (some { block := x4.heap.size, off := 0 }), Value.int IntKind.i64 ((3 : Nat) : Int), u12, u13, u14, u15, u16, Value.pointer (some { block := wm.heap.size, off := 0 }), undef, undef, undef, undef, undef, undef, undef, undef, undef, undef, undef, undef, undef, Value.bool true, Value.bool false, Value.slice A s.size c, Value.int IntKind.i64 (s.size : Int), Value.int IntKind.i64 ((s.size : Int) + 3), Value.slice (some { block := R, off := 0 }) 0 (s.size + 3), Value.slice A s.size c, Value.slice (some { block := R, off := 0 }) s.size (s.size + 3), Value.slice (some { block := W3.heap.size, off := 0 }) 3 3, Value.slice (some { block := R, off := 0 }) (s.size + 3) (s.size + 3), Value.slice A s.size c, Value.int IntKind.i64 (s.size : Int), z43, z44, z45, z46, z47, z48, z49, z50, Value.int IntKind.i64 5, Value.bool false, u53, u54, u55, u56, u57, u58, u59, u60, u61, Value.slice (some { block := R, off := 0 }) (s.size + 3) (s.size + 3), Value.int IntKind.i64 (s.size : Int), Value.slice (some { block := R, off := 0 }) s.size (s.size + 3), Value.bool (validB s), Value.slice (some { block := R, off := 0 }) (s.size + 3) (s.size + 3), Value.int IntKind.i64 (s.size : Int), Value.slice (some { block := R, off := 0 }) s.size (s.size + 3), Value.int IntKind.i64 (s.size : Int), Value.int IntKind.i64 ((s.size : Int) / 2), Value.tuple #[Value.int IntKind.i64 (floorP s ((s.size : Int) / 2).toNat : Nat), Value.int IntKind.i64 0], Value.slice (some { block := R, off := 0 }) (s.size + 3) (s.size + 3), Value.string (s ++ { data := #[91, 92, 93] }), Value.slice A s.size c, Value.string s, Value.string (s ++ { data := #[91, 92, 93] }), Value.bool false, Value.bool false, Value.func (Fn.func 32) #[] #[Value.pointer (some { block := BA, off := 0 })], Value.bool false, Value.bool false, Value.bool false, Value.func (Fn.func 38) #[] #[Value.pointer (some { block := BB, off := 0 })], Value.bool false, Value.bool false, Value.slice (some { block := R, off := 0 }) (s.size + 3) (s.size + 3), Value.int IntKind.i64 ((s.size : Int) + 3), Value.int IntKind.i64 ((s.size : Int) + 3), Value.bool false, u90, u91, u92, u93, u94, Value.slice A s.size c, Value.slice A7 (posL s).length c7, Value.int IntKind.i64 ((3 : Nat) : Int), Value.bool false, u99, u100, u101, u102, u103, u104, u105, u106, u107, u108, u109, u110, u111, u112, u113, u114, u115, u116, u117, u118, u119, u120, u121, u122, u123, u124, u125, u126, u127, u128, u129, u130, u131, u132, u133, u134, u135, u136, u137, u138, u139, u140, Value.func (Fn.func 32) #[] #[Value.pointer (some { block := BA, off := 0 })], undef, undef, undef, undef, undef, undef, undef, undef, undef, undef, undef, undef, undef, undef, undef, undef, undef, undef, undef, undef, undef, undef, undef, undef, undef, undef, undef, undef, undef, undef, undef, undef, undef, undef, undef, undef, undef, undef, undef, undef, undef, undef, undef, undef, undef, undef, undef, undef, undef, undef, undef, undef, undef, undef, undef, undef, undef, undef, undef, undef, undef, undef, undef, undef, undef, undef, undef, undef, undef, undef, undef, undef, undef, undef, undef, undef, undef, undef, undef, undef, undef, undef, undef, undef, undef, undef, undef, undef, undef, undef, undef, undef], defers := [{ target := .collected D, args := #[] }] } ∧ z0.heap.size ≤ D ∧ W.heap[D]? = some (.deferred (some [])) ∧ Below wm.heap.size wm W) (fun e a W hq => ?_) ?rng
                  case rng =>
                    refine (wpIn_wide (n := 3)).1 ?_
                    refine wpIn_rangeFunc_ownG rfl (by decide) (gf := 32) (lb := #[.pointer (some ⟨BA, 0, none⟩)]) rfl trivial (enters_of Tryd.func32 (by kernel_rfl) rfl)
                      (all_stops BA wm.heap.size s z0 (cell_stays hBz dA) bA dG0.out dG.out.lt hBz.size) (fun h k => kept_t h k) (keptK_b hBz.size) (Below.refl _ _) (fun _ => rfl)
                      (fun (pre : List Nat) W => (Boxed W wm.heap.size 3 (.int .i64 pre.length) ∧ pre.length ≤ 3) ∧ Below wm.heap.size wm W)
                      (fun cd _ W => cd = .exit 8 ∧ Below wm.heap.size wm W)
                      (OwnFrom.and (Own.from (fun sq X Y row hs hg hr => ⟨boxed_own wm.heap.size 3 (fun (l : List Nat) => Value.int .i64 l.length) sq X Y row hs.1 hg hr, hs.2⟩) _) (ownFrom_below (Nat.le_refl _) hBz.size))
                      (fun cd => OwnFrom.and (ownFrom_pure _ (fun _ => cd = .exit 8)) (ownFrom_below (Nat.le_refl _) hBz.size))
                      ⟨⟨bC, Nat.zero_le _⟩, hBz⟩
                      (fun x => { tmps := #[Value.slice A s.size c, undef, Value.pointer (some { block := w.heap.size, off := 0 }), Value.slice (some { block := R, off := 0 }) (s.size + 3) (s.size + 3), Value.int IntKind.i64 (s.size : Int), Value.pointer (some { block := X5, off := 0 }), Value.func (Fn.func 38) #[] #[Value.pointer (some { block := BB, off := 0 })], u7, Value.int IntKind.i64 5, u9, Value.pointer (some { block := x4.heap.size, off := 0 }), Value.int IntKind.i64 ((3 : Nat) : Int), u12, u13, u14, u15, u16, Value.pointer (some { block := wm.heap.size, off := 0 }), undef, undef, undef, undef, undef, undef, undef, undef, undef, undef, undef, undef, undef, Value.bool true, Value.bool false, Value.slice A s.size c, Value.int IntKind.i64 (s.size : Int), Value.int IntKind.i64 ((s.size : Int) + 3), Value.slice (some { block := R, off := 0 }) 0 (s.size + 3), Value.slice A s.size c, Value.slice (some { block := R, off := 0 }) s.size (s.size + 3), Value.slice (some { block := W3.heap.size, off := 0 }) 3 3, Value.slice (some { block := R, off := 0 }) (s.size + 3) (s.size + 3), Value.slice A s.size c, Value.int IntKind.i64 (s.size : Int), z43, z44, z45, z46, z47, z48, z49, z50, Value.int IntKind.i64 5, Value.bool false, u53, u54, u55, u56, u57, u58, u59, u60, u61, Value.slice (some { block := R, off := 0 }) (s.size + 3) (s.size + 3), Value.int IntKind.i64 (s.size : Int), Value.slice (some { block := R, off := 0 }) s.size (s.size + 3), Value.bool (validB s), Value.slice (some { block := R, off := 0 }) (s.size + 3) (s.size + 3), Value.int IntKind.i64 (s.size : Int), Value.slice (some { block := R, off := 0 }) s.size (s.size + 3), Value.int IntKind.i64 (s.size : Int), Value.int IntKind.i64 ((s.size : Int) / 2), Value.tuple #[Value.int IntKind.i64 (floorP s ((s.size : Int) / 2).toNat : Nat), Value.int IntKind.i64 0], Value.slice (some { block := R, off := 0 }) (s.size + 3) (s.size + 3), Value.string (s ++ { data := #[91, 92, 93] }), Value.slice A s.size c, Value.string s, Value.string (s ++ { data := #[91, 92, 93] }), Value.bool false, Value.bool false, Value.func (Fn.func 32) #[] #[Value.pointer (some { block := BA, off := 0 })], Value.bool false, Value.bool false, Value.bool false, Value.func (Fn.func 38) #[] #[Value.pointer (some { block := BB, off := 0 })], Value.bool false, Value.bool false, Value.slice (some { block := R, off := 0 }) (s.size + 3) (s.size + 3), Value.int IntKind.i64 ((s.size : Int) + 3), Value.int IntKind.i64 ((s.size : Int) + 3), Value.bool false, u90, u91, u92, u93, u94, Value.slice A s.size c, Value.slice A7 (posL s).length c7, Value.int IntKind.i64 ((3 : Nat) : Int), Value.bool false, u99, u100, u101, u102, u103, u104, u105, u106, u107, u108, u109, u110, u111, u112, u113, u114, u115, u116, u117, u118, u119, u120, u121, u122, u123, u124, u125, u126, u127, u128, u129, u130, u131, u132, u133, u134, u135, u136, u137, u138, u139, u140, Value.func (Fn.func 32) #[] #[Value.pointer (some { block := BA, off := 0 })], .int .i64 (x : Nat), stepV s x, undef, undef, undef, undef, undef, undef, undef, undef, undef, undef, undef, undef, undef, undef, undef, undef, undef, undef, undef, undef, undef, undef, undef, undef, undef, undef, undef, undef, undef, undef, undef, undef, undef, undef, undef, undef, undef, undef, undef, undef, undef, undef, undef, undef, undef, undef, undef, undef, undef, undef, undef, undef, undef, undef, undef, undef, undef, undef, undef, undef, undef, undef, undef, undef, undef, undef, undef, undef, undef, undef, undef, undef, undef, undef, undef, undef, undef, undef, undef, undef, undef, undef, undef, undef, undef, undef, undef, undef, undef, undef], defers := [] }) ?assign ?body ?done ?stop
                    case assign =>
                      intro l x W K hK
                      simp only [stepEncs]
                      gi_wp2
                      exact hK
                    case body =>
                      rintro l pre x W ⟨⟨hbx, hpr⟩, hbel⟩ hlen
                      have eX := cell_stays hbel dX
                      have eA := cell_stays hbel dA
                      have eG : Hid (BadLies W) := dG.out.below hbel dG.out.lt
                      have HBX := Lib.hid hbx
                      have HBEL := Lib.hid hbel
                      clear hbx hbel
                      gi_wp2
                      refine ⟨trivial, (show CallsIn (Fence.wide.inRound l) 0 _ _ _ _ _ from callsIn_wide.2 (gone_all2 BA s hs W eA eG.out)).mono ?_⟩
                      rintro e W2 ⟨A3, c3, A4, c4, rfl, hG4, h4, hnew⟩
                      have hbx2 := boxed_below HBX.out h4
                      have HBX2 := Lib.hid hbx2
                      have cB := hbx2.cell
                      have fB := hbx2.frozen
                      have SG4 : Hid (StepsAt W2 A4 s (posL s)) := fun j q h => hG4.steps j q h
                      have HNEW := Lib.hid hnew
                      have HBE2 := Lib.hid (HBEL.out.trans (h4.mono HBEL.out.size))
                      have KO2 := Lib.hid (others_below h4)
                      have H42 := Lib.hid h4
                      clear hG4 h4 eX eA hbx2 hnew
                      obtain ⟨W3', hW3'⟩ : ∃ W3', W3' = W2.setCell ⟨wm.heap.size, 0, none⟩ (.int .i64 (pre.length + 1)) := ⟨_, rfl⟩
                      have b3 : Below wm.heap.size wm W3' := by rw [hW3']; exact HBE2.out.setCell (p := ⟨wm.heap.size, 0, none⟩) (Nat.le_refl _) _
                      have x3b : Boxed W3' wm.heap.size 3 (.int .i64 (pre.length + 1)) := by rw [hW3']; exact HBX2.out.set _
                      have ko3 : KeepsOthers W2 W3' := by rw [hW3']; exact KeepsOthers.setCell _ _ _
                      have kb3 : Below wm.heap.size W2 W3' := by rw [hW3']; exact (Below.refl _ W2).setCell (p := ⟨wm.heap.size, 0, none⟩) (Nat.le_refl _) _
                      have c3b := x3b.cell
                      have c10 := cell_stays b3 d10
                      have hW3h := Lib.hid hW3'
                      have X3B := Lib.hid x3b
                      have B3B := Lib.hid b3
                      have KO3 := Lib.hid (KO2.out.trans ko3)
                      have KB3 := Lib.hid ((H42.out.mono HBEL.out.size).trans kb3)
                      clear b3 x3b ko3 kb3 hW3'
                      by_cases h3 : pre.length = 3
                      · have h3' : (3 : Int) < pre.length + 1 := by omega
                        gi_wp2
                        have hv : (Value.int .i64 (((pre.length : Nat) : Int) + 1)) = .int .i64 4 := by rw [h3]; rfl
                        rw [hv] at hW3h
                        rw [← hW3h.out]
                        exact ⟨KO3.out.from _, rfl, B3B.out⟩
                      · have h3' : ¬ (3 : Int) < pre.length + 1 := by omega
                        have hnn : ¬ x4.heap.size = wm.heap.size := by have := World.block_lt_of_cell? wm _ d10; dsimp only at this; omega
                        have hnn' : ¬ wm.heap.size = x4.heap.size := fun e => hnn e.symm
                        have c10w := cell_stays HBE2.out d10
                        have c10s : (W2.setCell ⟨wm.heap.size, 0, none⟩ (.int .i64 (pre.length + 1))).cell? ⟨x4.heap.size, 0, none⟩ = some (.slice A7 (posL s).length c7) := by rw [← hW3h.out]; exact c10
                        gi_wp2
                        rw [← hW3h.out]
                        have q1 : StepsAt W3' A4 s (posL s) := SG4.out.off (fun g e => by
                            have h1 := HNEW.out g e
                            have h2 := HBX.out.lt
                            obtain ⟨q, hq⟩ : ∃ q, (posL s)[0]? = some q := ⟨_, List.getElem?_eq_getElem (by omega)⟩
                            obtain ⟨g', e', h3, _⟩ := SG4.out 0 q hq
                            rw [e] at e'; cases e'
                            have h4 := World.block_lt_of_cell? W2 _ h3
                            rw [hW3h.out]
                            exact (grown_set W2 wm.heap.size 0 _).block g h4 (fun e => by cases e; omega))
                        have q2 := (dS.out.below B3B.out)
                        refine ⟨trivial, (show CallsIn (Fence.wide.inRound l) 0 _ _ _ _ _ from callsIn_wide.2 (refSame_calls A4 A7 c4 c7 s (posL s) W3' (by omega) q1 q2)).mono ?_⟩
                        rintro e W4' ⟨rfl, h6⟩
                        have B4B := Lib.hid (B3B.out.trans (h6.mono B3B.out.size))
                        have KO4 := Lib.hid (KO3.out.trans (others_below h6))
                        have KB4 := Lib.hid (KB3.out.trans (h6.mono (Nat.le_trans HBEL.out.size KB3.out.size)))
                        have X4B := boxed_below X3B.out h6
                        gi_wp2
                        refine ⟨KO4.out.from _, ⟨KB4.out, KO4.out.walks⟩, ⟨?_, ?_⟩, B4B.out⟩
                        · simpa using X4B
                        · simp; omega
                    case done =>
                      rintro D ys W hD rfl ⟨_, hbel⟩ hK
                      exact ⟨.inl rfl, D, rfl, hD, hK, hbel⟩
                    case stop =>
                      rintro D cd pre W hD _ ⟨rfl, hbel⟩ hK
                      refine wpIn_wide.2 (wp_exit ?_)
                      exact ⟨.inr rfl, D, rfl, hD, hK, hbel⟩
                  obtain ⟨he, D, rfl, hD, hK, hbel⟩ := hq
                  refine inBlock_meets he ?_
                  have BT : Below x3.heap.size x3 W := (B35.out.trans (HL3.out.mono B35.out.size)).trans (hbel.mono (Nat.le_trans B35.out.size HL3.out.size))
                  have E5W := Lib.hid (E5.out.below BT)
                  have UNW : Hid (Under ys W.heap.size) := E5W.out.under
                  have E6W := Lib.hid (own_stays E6.out (fun g e => BT.block g (own_here E6.out e).2.1))
                  have E7W := Lib.hid (boxed_below E7.out BT)
                  have HKW := Lib.hid hK
                  have HW := Lib.hid (H3.out.trans (BT.mono H3.out.size))
                  have hzW : x3.heap.size ≤ W.heap.size := BT.size
                  have hU' := Lib.hid hU
                  have hzb : wx.heap.size ≤ W.heap.size := by omega
                  obtain ⟨gl, cl, hul, _, _⟩ := E6W.out.form (by omega)
                  subst hul
                  obtain ⟨n, hn⟩ : ∃ n, (posL s).length = n := ⟨_, rfl⟩
                  have hns : n ≤ s.size := by omega
                  have hDw : w.heap.size < D := by omega
                  clear BT hbel hK hD bX bA bC hBz dG0 HBZ dX dA dB dY dG d10 dS HL3 he hU
                  rw [hn] at E5W
                  have HN := Lib.hid hn
                  clear hn
                  go_wp2_with fail
                  go_loopw [159] (fun i wr => ∃ k : Nat, i = .int .i64 k ∧ k ≤ 5 ∧ Rw 21 wr wx.heap.size ys (OW n k 0) ∧ wr.ownsRow wx.heap.size 33 1 (.slice (some ⟨gl, 0, none⟩) 5 cl) 5 ys ∧ Stl wx.heap.size W wr) (fun i _ => 5 - (intOf i).toNat)
                  case atStart => exact ⟨0, rfl, Nat.zero_le _, E5W.out.imp (fun i xs _ h => ⟨h, fun t _ hk => by omega⟩), E6W.out, Stl.refl _ _⟩
                  case round =>
                    obtain ⟨k, rfl, hk5, lV, lA, lS⟩ := hrel
                    replace lV := Lib.hid lV
                    replace lA := Lib.hid lA
                    replace lS := Lib.hid lS
                    by_cases hkl5 : k < 5
                    · obtain ⟨uk, i2⟩ : ∃ v, ys[k]? = some v := ⟨_, List.getElem?_eq_getElem (by omega)⟩
                      obtain ⟨xs, hx, hF⟩ := lV.out _ _ i2
                      obtain ⟨Ak, ck, rfl, hAk⟩ := Many.own_slice hx
                      rw [hF.1] at i2
                      have cA := (own_cell lA.out i2).1
                      have I2 := Lib.hid i2
                      have HAK := Lib.hid hAk
                      clear hx hF xs hAk i2
                      obtain ⟨wp, hwp⟩ : ∃ wp, wp = wr := ⟨_, rfl⟩
                      subst hwp
                      go_wp2_with fail
                      go_loopw [166] (fun i wr => ∃ j : Nat, i = .int .i64 j ∧ j ≤ n ∧ Rw 21 wr wx.heap.size ys (OW n k j) ∧ wr.ownsRow wx.heap.size 33 1 (.slice (some ⟨gl, 0, none⟩) 5 cl) 5 ys ∧ Stl wx.heap.size W wr) (fun i _ => n - (intOf i).toNat)
                      case atStart => exact ⟨0, rfl, Nat.zero_le _, lV.out, lA.out, lS.out⟩
                      case round =>
                        obtain ⟨j, rfl, hj, yV, yA, yS⟩ := hrel
                        replace yV := Lib.hid yV
                        replace yA := Lib.hid yA
                        replace yS := Lib.hid yS
                        by_cases hjl : j < n
                        · obtain ⟨xs, hx, hF⟩ := yV.out _ _ I2.out
                          have hln := hF.1
                          rw [hln] at hx
                          obtain ⟨g, rfl⟩ : ∃ g, Ak = some ⟨g, 0, none⟩ := by
                            rcases HAK.out with h | h
                            · subst h
                              rcases hx.2 with ⟨_, h0⟩ | ⟨_, _, _, e, _⟩
                              · omega
                              · cases e
                            · exact h
                          obtain ⟨c1, f1⟩ := own_cell hx (List.getElem?_eq_getElem (show j < xs.length by omega))
                          obtain ⟨y, hy⟩ : ∃ y, xs[j]'(by omega) = y := ⟨_, rfl⟩
                          rw [hy] at c1
                          obtain ⟨W2, hW2⟩ : ∃ W2, W2 = wr.setCell ⟨g, j, none⟩ (.int .i32 k) := ⟨_, rfl⟩
                          have hgr : wr.grownBy W2 (some g) := by rw [hW2]; exact grown_set wr g j _
                          obtain ⟨gb, gl', gcs, gc⟩ := own_here hx (g := g) rfl
                          have hbut : But 21 wr W2 := But.of_grown hgr (fun g' e => by cases e; exact ⟨gcs, _, gc⟩)
                          have V2 := Lib.hid (yV.out.one (G := OW n k (j + 1)) hU'.out I2.out rfl hgr ⟨xs.set j (.int .i32 k), by rw [hW2, List.length_set, hln]; exact own_set hx, hF.set⟩ (fun i xs hi h => h.other hi))
                          have A2 := Lib.hid (but_row hbut (by decide) yA.out)
                          have S2 := Lib.hid (yS.out.trans (Stl.of_grown hgr (by have := yS.out.below.size; omega) (fun g' e => by cases e; exact ⟨gb, gcs, _, _, gc⟩)))
                          have HW2 := Lib.hid hW2
                          clear hx hF hy hW2 hgr gb gl' gc hbut
                          go_wp2_with fail
                          rw [show wr.setCell ⟨g, j, none⟩ (.int .i32 k) = W2 from HW2.out.symm]
                          go_roundw
                          case rel => exact ⟨j + 1, by go_num, by omega, V2.out, A2.out, S2.out⟩
                          case measure => simp [intOf]; omega
                        · obtain rfl : j = n := by omega
                          have V3 : Hid (Rw 21 wr wx.heap.size ys (OW j (k + 1) 0)) := yV.out.imp (fun _ _ _ h => h.next)
                          go_wp2_with fail
                          go_roundw
                          case rel => exact ⟨k + 1, by go_num, by omega, V3.out, yA.out, yS.out⟩
                          case measure => simp [intOf]; omega
                    · obtain rfl : k = 5 := by omega
                      obtain ⟨wq, hwq⟩ : ∃ wq, wq = wr := ⟨_, rfl⟩
                      subst hwq
                      have hzq : W.heap.size ≤ wq.heap.size := lS.out.below.size
                      have GV : Rw 21 wq wx.heap.size ys (fun i xs => xs = List.replicate n (.int .i32 i)) := lV.out.imp (fun i xs hi h => h.all (by omega))
                      have G0 : Hid (Gro wq wx.heap.size wq.heap.size n 0 ys [] (.slice none 0 0) (.slice (some ⟨gl, 0, none⟩) 5 cl)) := ⟨GV, fun i v hi => by simp at hi, fun i j v u g hi => by simp at hi, hU'.out, GV.under, World.ownsRow_nil _ _ _ _, lA.out, fun g e => (own_here lA.out e).2.1, Nat.le_refl _, by omega⟩
                      clear GV lV lA
                      go_wp2_with fail
                      go_loopw [23, 178] (fun v i wr => ∃ (k : Nat) (gs : List Value), i = .int .i64 k ∧ k ≤ 5 ∧ Gro wr wx.heap.size wq.heap.size n k ys gs v (.slice (some ⟨gl, 0, none⟩) 5 cl) ∧ Stl wx.heap.size W wr) (fun _ i _ => 5 - (intOf i).toNat)
                      case atStart => exact ⟨0, [], rfl, Nat.zero_le _, G0.out, lS.out⟩
                      case round =>
                        obtain ⟨k, gs, rfl, hk5, gG, gS⟩ := hrel
                        replace gG := Lib.hid gG
                        replace gS := Lib.hid gS
                        by_cases hkl5 : k < 5
                        · obtain ⟨uk, i2⟩ : ∃ v, ys[k]? = some v := ⟨_, List.getElem?_eq_getElem (by omega)⟩
                          obtain ⟨xs, hx, hF⟩ := gG.out.V _ _ i2
                          obtain ⟨Ak, ck, rfl, hAk⟩ := Many.own_slice hx
                          have hn0 : xs.length = n := by rw [hF]; simp
                          rw [hn0] at i2 hx
                          have cA := (own_cell gG.out.L i2).1
                          have I2 := Lib.hid i2
                          have HAK := Lib.hid hAk
                          have HX := Lib.hid hx
                          have hzw : wq.heap.size ≤ wr.heap.size := gG.out.z
                          clear hx hF hAk i2 hn0
                          obtain ⟨wp, hwp⟩ : ∃ wp, wp = wr := ⟨_, rfl⟩
                          subst hwp
                          have GUN : Hid (Under gs wp.heap.size) := gG.out.G.under
                          obtain ⟨vG, hvG⟩ : ∃ v, v = u23 := ⟨_, rfl⟩
                          subst hvG
                          go_wp2_with fail
                          go_loopw [26, 27] (fun v i wr => ∃ (t : Nat) (xs : List Value), i = .int .i64 t ∧ t ≤ 32 ∧ wr.ownsRow wx.heap.size 21 1 v (n + t) xs ∧ Fro (.slice Ak n ck) v n t wp.heap.size ∧ Gro wr wx.heap.size wq.heap.size n k ys gs vG (.slice (some ⟨gl, 0, none⟩) 5 cl) ∧ wp.heap.size ≤ wr.heap.size ∧ Stl wx.heap.size W wr) (fun _ i _ => 32 - (intOf i).toNat)
                          case atStart =>
                            refine ⟨0, xs, rfl, Nat.zero_le _, HX.out, ?_, gG.out, Nat.le_refl _, gS.out⟩
                            rcases HAK.out with h | ⟨g, h⟩
                            · subst h; exact .inr (fun g e => by cases e)
                            · subst h; exact .inl ⟨g, ck, rfl, rfl⟩
                          case round =>
                            obtain ⟨t, xs, rfl, ht, tR, tC, tG, tz, tS⟩ := hrel
                            replace tR := Lib.hid tR
                            replace tC := Lib.hid tC
                            replace tG := Lib.hid tG
                            replace tS := Lib.hid tS
                            by_cases htl : t < 32
                            · go_wp2_with (at_builtin; refine wpList_append_two _ rfl (.tmp 188) (.tmp 189) 33 rfl wx.heap.size 21 r0 (.int .i32 0) 4 Tryd.underlying33 hr0 hr1 hr2 hr3 rfl _ (n + t) xs rfl (tR.out.alloc _) (.int .i32 7) wr.heap.size rfl (by simp) rfl (by omega) (by decide) (by simp; omega) ?_; intro v' x10 hown' hcase)
                              have D1 : Below wr.heap.size wr (wr.alloc (.cells #[.int .i32 7] 21)) := (Below.refl _ _).alloc (Nat.le_refl _) _
                              obtain ⟨k1, k2, k3⟩ := Gro.app (S' := wp.heap.size) (tG.out.below D1) I2.out hzw (by have := D1.size; omega) GUN.out (tR.out.alloc _) tC.out hown' hcase
                              have S11 := Lib.hid ((tS.out.trans (Stl.of_below D1 (by omega))).trans k3)
                              have zz2 : wp.heap.size ≤ x10.heap.size := by have := D1.size; have := k3.below.size; omega
                              replace k1 := Lib.hid k1
                              replace k2 := Lib.hid k2
                              have R11 : Hid (x10.ownsRow wx.heap.size 21 1 v' (n + (t + 1)) (xs ++ [.int .i32 7])) := hown'
                              clear hcase hown' D1 k3
                              go_roundw
                              case rel =>
                                refine ⟨v', .int .i64 ((t : Int) + 1), .int .i64 t, .bool true, .int .i64 t, .int .i64 ((t : Int) + 1), u26, .slice (some ⟨wr.heap.size, 0, none⟩) 1 1, v', ⟨t + 1, _, by go_num, by omega, R11.out, k2.out, k1.out, zz2, S11.out⟩, ?_⟩
                                have hd : decide ((k : Int) < 5) = true := decide_eq_true (by omega)
                                simp [hd]
                                rw [show ((s.size : Int) / 2).toNat = s.size / 2 by omega]
                              case measure => simp [intOf]; omega
                            · obtain rfl : t = 32 := by omega
                              obtain ⟨xl, hxl, hFl⟩ := tG.out.V _ _ I2.out
                              rw [show xl.length = n by rw [hFl]; simp] at hxl
                              have hFr : Fro (.slice Ak n ck) (.slice Ak n ck) n 0 wp.heap.size := by
                                rcases HAK.out with h | ⟨g, h⟩
                                · subst h; exact .inr (fun g e => by cases e)
                                · subst h; exact .inl ⟨g, ck, rfl, rfl⟩
                              replace hxl := Lib.hid hxl
                              replace hFr := Lib.hid hFr
                              clear hFl tR tC
                              have D1 : Hid (Below wr.heap.size wr (wr.alloc (.cells #[.int .i32 (100 + (k : Int))] 21))) := (Below.refl _ _).alloc (Nat.le_refl _) _
                              go_wp2_with (at_builtin; first
                                | (refine wpList_append_two _ rfl (.tmp 192) (.tmp 196) 33 rfl wx.heap.size 21 r0 (.int .i32 0) 4 Tryd.underlying33 hr0 hr1 hr2 hr3 rfl _ n xl rfl (hxl.out.alloc _) (.int .i32 (100 + (k : Int))) wr.heap.size rfl (by simp) rfl (by omega) (by decide) (by simp; omega) ?_; intro v1 x11 hown1 hcase1; obtain ⟨k1, k2, k3⟩ := Gro.app (S' := wp.heap.size) (m := 0) (tG.out.below D1.out) I2.out hzw (by have := D1.out.size; omega) GUN.out (hxl.out.alloc _) hFr.out hown1 hcase1; obtain ⟨A1', c1', rfl, _⟩ := Many.own_slice hown1; replace k1 := Lib.hid k1; replace k2 := Lib.hid k2; replace k3 := Lib.hid k3; replace hown1 := Lib.hid hown1; clear hcase1)
                                | (refine wpList_append_two _ rfl (.tmp 191) (.tmp 198) 54 rfl wq.heap.size 33 l0 (.slice none 0 0) 24 Tryd.underlying54 hl0 hl1 hl2 hl3 rfl _ k gs rfl (k1.out.R.alloc _) (.slice A1' (n + 1) c1') x11.heap.size rfl (by simp) rfl (by omega) (by decide) (by have := k1.out.z; simp; omega) ?_; intro v2 x12 hown2 hcase2))
                              have D2 : Below x11.heap.size x11 (x11.alloc (.cells #[.slice A1' (n + 1) c1'] 33)) := (Below.refl _ _).alloc (Nat.le_refl _) _
                              obtain ⟨q1, q2⟩ := Gro.push (S' := wp.heap.size) (k1.out.below D2) I2.out hzw (hown1.out.alloc _) k2.out hown2 hcase2
                              have zz4 : wx.heap.size ≤ wr.heap.size := by omega
                              have zz5 : wr.heap.size ≤ x11.heap.size := by have := k3.out.below.size; have := D1.out.size; omega
                              have S12 := Lib.hid ((((tS.out.trans (Stl.of_below D1.out zz4)).trans k3.out).trans (Stl.of_below D2 (by omega))).trans q2)
                              replace q1 := Lib.hid q1
                              clear hown2 hcase2 D1 D2 k1 k2 k3 q2 hown1 hxl hFr
                              go_roundw
                              case rel =>
                                refine ⟨v2, .int .i64 k, .slice Ak n ck, u26, .int .i64 32, .int .i64 ((k : Int) + 1), .bool true, .int .i64 k, .pointer (some ⟨gl, k, none⟩), .slice Ak n ck, .slice Ak n ck, .int .i64 32, .bool false, u186, u187, u188, u189, u190, vG, .slice Ak n ck, .int .i64 k, .int .i64 (100 + (k : Int)), .int .i32 (100 + (k : Int)), .slice (some ⟨wr.heap.size, 0, none⟩) 1 1, .slice A1' (n + 1) c1', .slice (some ⟨x11.heap.size, 0, none⟩) 1 1, v2, .int .i64 ((k : Int) + 1), ⟨k + 1, _, by go_num, by omega, q1.out, S12.out⟩, ?_⟩
                                simp
                                rw [show ((s.size : Int) / 2).toNat = s.size / 2 by omega]
                              case measure => simp [intOf]; omega
                        · obtain rfl : k = 5 := by omega
                          obtain ⟨wz, hwz⟩ : ∃ wz, wz = wr := ⟨_, rfl⟩
                          subst hwz
                          obtain ⟨gG1, cG, hug, _, _⟩ := gG.out.R.form (by omega)
                          subst hug
                          go_wp2_with fail
                          go_loopw [203] (fun i wr => ∃ k : Nat, i = .int .i64 k ∧ k ≤ 5 ∧ wr = wz) (fun i _ => 5 - (intOf i).toNat)
                          case atStart => exact ⟨0, rfl, Nat.zero_le _, rfl⟩
                          case round =>
                            obtain ⟨k, rfl, hk5, rfl⟩ := hrel
                            by_cases hkl5 : k < 5
                            · obtain ⟨uk, i2⟩ : ∃ v, ys[k]? = some v := ⟨_, List.getElem?_eq_getElem (by omega)⟩
                              obtain ⟨vk, i3⟩ : ∃ v, gs[k]? = some v := ⟨_, List.getElem?_eq_getElem (by have := gG.out.len; omega)⟩
                              obtain ⟨xs, hx, hF⟩ := gG.out.V _ _ i2
                              obtain ⟨xg, hxg, hlg, hgg⟩ := gG.out.G _ _ i3
                              obtain ⟨Ak, ck, rfl, hAk⟩ := Many.own_slice hx
                              have hn0 : xs.length = n := by rw [hF]; simp
                              rw [hn0] at i2 hx
                              rw [hlg] at hxg
                              obtain ⟨g3, c3', rfl, _, _⟩ := hxg.form (by omega)
                              have cA := (own_cell gG.out.L i2).1
                              have cG' := (own_cell gG.out.R i3).1
                              have cN := (own_cell hxg hgg).1
                              have HAK := Lib.hid hAk
                              have HX := Lib.hid hx
                              have HF := Lib.hid hF
                              clear hx hF hAk i2 i3 hn0 hxg hlg hgg
                              go_wp2_with fail
                              go_loopw [210] (fun i wr' => ∃ j : Nat, i = .int .i64 j ∧ j ≤ n ∧ wr' = wr) (fun i _ => n - (intOf i).toNat)
                              case atStart => exact ⟨0, rfl, Nat.zero_le _, rfl⟩
                              case round =>
                                obtain ⟨j, rfl, hj, rfl⟩ := hrel
                                by_cases hjl : j < n
                                · obtain ⟨g, rfl⟩ : ∃ g, Ak = some ⟨g, 0, none⟩ := by
                                    rcases HAK.out with h | h
                                    · subst h
                                      rcases HX.out.2 with ⟨_, h0⟩ | ⟨_, _, _, e, _⟩
                                      · omega
                                      · cases e
                                    · exact h
                                  obtain ⟨c1, _⟩ := own_cell HX.out (show xs[j]? = some (.int .i32 k) by rw [HF.out, List.getElem?_replicate, if_pos hjl])
                                  go_wp2_with fail
                                  go_roundw
                                  case rel => exact ⟨j + 1, by go_num, by omega, by simp⟩
                                  case measure => simp [intOf]; omega
                                · obtain rfl : j = n := by omega
                                  go_wp2_with fail
                                  go_roundw
                                  case rel => exact ⟨k + 1, by go_num, by omega, by simp⟩
                                  case measure => simp [intOf]; omega
                            · obtain rfl : k = 5 := by omega
                              have hwx : w.heap.size < wx.heap.size := by omega
                              have E7Z : Boxed wr w.heap.size 4 (.bool false) := (gS.out.below.block _ hwx).trans E7W.out
                              have cZ := E7Z.cell
                              have fZ := E7Z.frozen
                              have HE7Z := Lib.hid E7Z
                              clear E7Z
                              go_wp2_with fail
                              have HKZ := Lib.hid ((gS.out.others.trans (KeepsOthers.setCell wr ⟨w.heap.size, 0, none⟩ (.bool true))).same _ _ HKW.out rfl)
                              have E9 : Boxed (wr.setCell ⟨w.heap.size, 0, none⟩ (.bool true)) w.heap.size 4 (.bool true) := HE7Z.out.set _
                              have c9 := E9.cell
                              have L9 : Below w.heap.size w (wr.setCell ⟨w.heap.size, 0, none⟩ (.bool true)) := (HW.out.trans (gS.out.below.mono (by omega))).setCell (p := ⟨w.heap.size, 0, none⟩) (Nat.le_refl _) _
                              refine ⟨by simp, .inl ⟨_, _, rfl, run_takeDeferred HKZ.out, ?_⟩⟩
                              have E10 : Boxed ((wr.setCell ⟨w.heap.size, 0, none⟩ (.bool true)).putObj D (.deferred none)) w.heap.size 4 (.bool true) := (World.putObj_heap_other (by omega)).trans E9
                              exact ⟨_, results_box rfl _ _ w.heap.size _ _ _ rfl E10 Tryd.underlying4 rfl, rfl, L9.trans (belowK_b (w := w) (Nat.le_refl _) _ D _ _ (by omega) HKZ.out rfl rfl)⟩
    | _ => exact hq.elim
end Go.Proofs.YtcnbfpmognijcaaDoor
