/- The walk of StepNames: nine rows, each with a range over an iterator; nine marks. -/
import Derived.Test.YtcnbfpmognijcaaDoorIterS
import Derived.Test.YtcnbfpmognijcaaDoorNamesTest
import Derived.Test.YtcnbfpmognijcaaDoorNamesPure
namespace Go.Proofs.YtcnbfpmognijcaaDoor
open Go.RowKit Go.Shelf Galley Go.Proofs.YtcnbfpmognijcaaDoorW.PrintWords
attribute [local go_sem ↓] field0 field1 field2
attribute [local go_sem] Oper.semAt_some

theorem leaves_marks {F : Fence} {n : Nat} {P : Program} {fn : Func} {tmps : Array Value} {R : Ending → World → Prop} (n₀ : Nat) : ∀ (Ds : List Nat) (w : World), Ds.Nodup → (∀ D ∈ Ds, n₀ ≤ D ∧ w.heap[D]? = some (.deferred (some []))) → n₀ ≤ w.heap.size →
    (∀ w', Below n₀ w w' → LeavesInM F n P fn tmps R [] .returning w') → LeavesInM F n P fn tmps R (Ds.map fun D => { target := .collected D, args := #[] }) .returning w
  | [], w, _, _, _, h => h w (Below.refl _ _)
  | D :: Ds, w, hnd, hD, hn, h => by
    obtain ⟨hD1, hD2⟩ := hD D (by simp)
    have hlt := (Array.getElem?_eq_some_iff.1 hD2).1
    have hb : Below n₀ w (w.putObj D (.deferred none)) := (Below.refl n₀ w).grown (grownBy_putObj' w D _) hn (fun k e => by cases e; exact hD1)
    refine ⟨by simp, .inl ⟨D, _, rfl, run_takeDeferred hD2, leaves_marks n₀ Ds _ (List.nodup_cons.1 hnd).2 (fun E hE => ?_) (by simpa using hn) (fun w' hw' => h w' (hb.trans hw'))⟩⟩
    obtain ⟨hE1, hE2⟩ := hD E (by simp [hE])
    refine ⟨hE1, ?_⟩
    have hne : E ≠ D := fun e => (List.nodup_cons.1 hnd).1 (e ▸ hE)
    exact ((grownBy_putObj' w D _).block E (Array.getElem?_eq_some_iff.1 hE2).1 (fun e => hne (by cases e; rfl))).trans hE2

set_option maxRecDepth 100000 in
set_option maxHeartbeats 4000000 in
theorem names_walk (w : World) (hg : BadLies w) :
    Calls Tryd.prog 4 #[] w fun e w' => e = .returned (.bool true) ∧ Below w.heap.size w w' := by
  have hlt := hg.lt
  have HG := Lib.hid hg
  clear hg
  refine (callsIn_wide (n := 3)).1 ?_
  refine callsIn_of_wp_marks Tryd.func4 rfl trivial ?_ rfl
  refine wpIn_wide.2 ?_
  simp only [Tryd.ntmps4, List.size_toArray, List.length_nil, Nat.reduceSub, Array.replicate_succ, Array.replicate_zero, List.push_toArray, List.append_toArray, List.nil_append, List.cons_append]
  go_wp2_with fail
  refine (fixed_calls _ HG.out).mono ?_
  rintro e w0 ⟨rfl, h0⟩
  have H0 := Lib.hid h0
  clear h0
  go_wp2_with fail
  obtain ⟨W1, hW1⟩ : ∃ W1, W1 = w0.alloc (.cells (tab.flatMap fun x => [Value.string x.1, .string x.2.1, .int .i64 x.2.2]).toArray 26) := ⟨_, rfl⟩
  have hT : ∀ (j : Nat) (x : ByteArray × ByteArray × Nat), tab[j]? = some x → W1.cell? ⟨w0.heap.size, j * 3, none⟩ = some (.string x.1) ∧ W1.cell? ⟨w0.heap.size, j * 3 + 1, none⟩ = some (.string x.2.1) ∧ W1.cell? ⟨w0.heap.size, j * 3 + 2, none⟩ = some (.int .i64 x.2.2) := by
    intro j x hx
    have hj : j < 9 := (List.getElem?_eq_some_iff.1 hx).1
    rw [hW1]
    rcases (by omega : j = 0 ∨ j = 1 ∨ j = 2 ∨ j = 3 ∨ j = 4 ∨ j = 5 ∨ j = 6 ∨ j = 7 ∨ j = 8) with rfl | rfl | rfl | rfl | rfl | rfl | rfl | rfl | rfl <;> (simp [tab] at hx; subst hx; simp [tab])
  have h1 : Below w.heap.size w W1 := by rw [hW1]; exact H0.out.alloc H0.out.size _
  have HW1 := Lib.hid hW1
  have HT := Lib.hid hT
  have H1 := Lib.hid h1
  clear hW1 hT h1
  refine wp_loop (fun a W => ∃ (k : Nat) (Ds : List Nat) (u2 u3 u22 u23 u24 u25 u26 u27 u28 u36 u37 u38 u39 u40 u41 u42 u43 u44 u45 u46 u47 u48 u49 u50 t10 t11 t12 t13 t14 t15 t16 t17 t18 : Value), a = { tmps := #[.bool false, undef, u2, u3, undef, undef, .bool false, .bool true, .bool false, .bool false, t10, t11, t12, t13, t14, t15, t16, t17, t18, .slice (some ⟨w0.heap.size, 0, none⟩) 9 9, .int .i64 9, .int .i64 (k : Nat), u22, u23, u24, u25, u26, u27, u28, undef, undef, undef, undef, undef, undef, undef, u36, u37, u38, u39, u40, u41, u42, u43, u44, u45, u46, u47, u48, u49, u50], defers := Ds.map fun D => { target := .collected D, args := #[] } } ∧ k ≤ 9 ∧ Below W1.heap.size W1 W ∧ (∀ D ∈ Ds, W1.heap.size ≤ D ∧ W.heap[D]? = some (.deferred (some []))) ∧ Ds.Nodup)
    (fun a _ => 9 - (intOf (a.tmps.getD 21 undef)).toNat) ?start ?round
  case start =>
    refine ⟨0, [], _, _, _, _, _, _, _, _, _, _, _, _, _, _, _, _, _, _, _, _, _, _, _, _, _, _, _, _, _, _, _, _, _, rfl, by omega, ?_, by simp, by simp⟩
    rw [HW1.out]
    exact Below.refl _ _
  case round =>
    rintro a W ⟨k, Ds, u2, u3, u22, u23, u24, u25, u26, u27, u28, u36, u37, u38, u39, u40, u41, u42, u43, u44, u45, u46, u47, u48, u49, u50, t10, t11, t12, t13, t14, t15, t16, t17, t18, rfl, hk, hbw, hD, hnd⟩
    have HW := Lib.hid hbw
    have HD := Lib.hid hD
    have HN := Lib.hid hnd
    clear hbw hD hnd
    by_cases hkl : k < 9
    · obtain ⟨⟨bs, rs, n⟩, hx⟩ : ∃ x, tab[k]? = some x := ⟨_, List.getElem?_eq_getElem (show k < tab.length from hkl)⟩
      obtain ⟨k1, k2, k3⟩ := HT.out k _ hx
      have c1 := cell_stays HW.out k1
      have c2 := cell_stays HW.out k2
      have c3 := cell_stays HW.out k3
      have HX := Lib.hid hx
      clear hx k1 k2 k3
      dsimp only at c1 c2 c3
      have hts := List.all_eq_true.1 tab_says _ (List.mem_of_getElem? HX.out)
      simp only [Bool.and_eq_true, decide_eq_true_eq, beq_iff_eq] at hts
      obtain ⟨⟨hsz, hbad⟩, hrun⟩ := hts
      have hbad := Lib.hid hbad
      have hrun := Lib.hid hrun
      obtain ⟨Wa, hWa⟩ : ∃ Wa, Wa = (W.alloc (.cells #[.string bs, .string rs, .int .i64 n] 26)).alloc (.cells #[.int .i64 0] 3) := ⟨_, rfl⟩
      obtain ⟨cb, Wb, hcv, hby, hbb, hsb⟩ := bytes_conv bs Wa (by omega)
      have hWs : Wa.heap.size = W.heap.size + 2 := by rw [hWa]; simp
      have bR : Wa.heap[W.heap.size]? = some (.cells #[.string bs, .string rs, .int .i64 n] 26 (0, 0)) := by
        rw [hWa]; exact (Below.heap_alloc _ _ _ (by simp)).trans (World.alloc_heap_new W _)
      have bC : Boxed Wa (W.heap.size + 1) 3 (.int .i64 0) := by
        rw [hWa]; have := Boxed.new (W.alloc (.cells #[.string bs, .string rs, .int .i64 n] 26)) 3 (.int .i64 0)
        rwa [World.size_alloc] at this
      have hBa : Below W.heap.size W Wa := by rw [hWa]; exact ((Below.refl _ W).alloc (Nat.le_refl _) _).alloc (by simp) _
      rw [hWs] at hby
      rw [hWa] at hcv
      go_wp2_with fail
      refine (All_calls _ _ bs Wb hby).mono ?_
      rintro e w2 ⟨rfl, rfl⟩
      go_wp2_with fail
      obtain ⟨B0, hB0⟩ : ∃ B0, B0 = W.heap.size + 1 + 1 + 1 := ⟨_, rfl⟩
      obtain ⟨Wq, hWq⟩ : ∃ Wq, Wq = Wb.alloc (.cells #[.string bs] 9) := ⟨_, rfl⟩
      have hszb : Wb.heap.size = B0 := by omega
      have eB : Wq.cell? ⟨B0, 0, none⟩ = some (.string bs) := by rw [hWq, ← hszb]; simp
      have hbq : Below Wa.heap.size Wa Wq := by rw [hWq]; exact hbb.alloc hbb.size _
      have qR : Wq.heap[W.heap.size]? = some (.cells #[.string bs, .string rs, .int .i64 n] 26 (0, 0)) := (hbq.block _ (by omega)).trans bR
      have qC : Boxed Wq (W.heap.size + 1) 3 (.int .i64 0) := (hbq.block _ (by omega)).trans bC
      have hWq0 : Below W.heap.size W Wq := hBa.trans (hbq.mono hBa.size)
      have hGq : BadLies Wq := HG.out.below (H1.out.trans ((HW.out.trans (hWq0.mono HW.out.size)).mono H1.out.size)) hlt
      have hlq : W.heap.size + 1 ≤ Wq.heap.size := by have := hbq.size; omega
      have hbl : 0 < W.heap.size + 1 := by have := HW.out.size; have := H1.out.size; have := hlt; omega
      rw [← hB0, ← hWq]
      have HQ0 := Lib.hid hWq0
      have HQR := Lib.hid qR
      clear hcv hby hbb hsb hWs bR bC hBa hWa hWq hszb hbq hWq0 qR c1 c2 c3
      have HB0 := Lib.hid hB0
      have hpl := posL_length bs
      clear hB0
      refine (wpIn_wide (n := 3)).1 ?_
      refine wpIn_rangeFunc_ownH rfl (by decide) (gf := 32) (lb := #[.pointer (some ⟨B0, 0, none⟩)]) rfl trivial (enters_of Tryd.func32 (by kernel_rfl) rfl)
        (all_at B0 (W.heap.size + 1) bs Wq eB hGq hbl hlq) (fun h k => keptS_t h k) (keptS_b hlq) (Below.refl _ _) (fun _ => rfl)
        (fun (pre : List Nat) V => Boxed V (W.heap.size + 1) 3 (.int .i64 (pre.countP fun p => !whole bs p)) ∧ Below (W.heap.size + 1) Wq V)
        (fun _ _ _ => False)
        (OwnFrom.and (Own.from (boxed_own (W.heap.size + 1) 3 (fun (l : List Nat) => Value.int .i64 (l.countP fun p => !whole bs p))) _) (ownFrom_below hlq hlq))
        (fun _ _ _ _ _ hs _ _ => hs)
        ⟨qC, Below.refl _ _⟩
        (fun x a' V => ∃ Bx, W.heap.size + 1 < Bx ∧ V.heap[Bx]? = some (.cells #[.int .i32 (rune bs x), .int .i64 (width bs x), .bool (whole bs x)] 32 (0, 0)) ∧ a' = { tmps := #[.bool false, undef, .pointer (some ⟨W.heap.size, 0, none⟩), .pointer (some ⟨W.heap.size + 1, 0, none⟩), undef, .pointer (some ⟨Bx, 0, none⟩), .bool false, .bool true, .bool false, .bool false, t10, t11, t12, t13, t14, t15, t16, t17, t18, .slice (some ⟨w0.heap.size, 0, none⟩) 9 9, .int .i64 9, .int .i64 (k : Nat), .bool true, .pointer (some ⟨w0.heap.size, k * 3, none⟩), .agg #[.string bs, .string rs, .int .i64 n], .pointer (some ⟨W.heap.size, 0, none⟩), .string bs, .slice (some ⟨W.heap.size + 1 + 1, 0, none⟩) bs.size cb, .func (.func 32) #[] #[.pointer (some ⟨B0, 0, none⟩)], .int .i64 (x : Nat), stepV bs x, undef, undef, undef, undef, undef, u36, u37, u38, u39, u40, u41, u42, u43, u44, u45, u46, u47, u48, u49, u50], defers := [] })
        ?ax ?assign ?body ?done ?stop
      case ax =>
        rintro x a' _ X Y row ⟨Bx, q1, q2, q3⟩ hg hr
        refine ⟨Bx, q1, ?_, q3⟩
        refine (hg.block Bx (Array.getElem?_eq_some_iff.1 q2).1 (fun e' => ?_)).trans q2
        obtain ⟨_, o, ho, hc⟩ := hr Bx e'.symm
        rw [q2] at ho; cases ho; cases hc
      case assign =>
        rintro l pre x V K ⟨hb, hbel⟩ hK
        simp only [stepEncs]
        gi_wp2
        have hsz2 := hb.lt
        exact hK _ _ ((KeepsOthers.alloc _ _).from _) ⟨⟨(Below.refl _ V).alloc (by omega) _, (KeepsOthers.alloc V _).walks⟩, fun s hs => cell_stays ((Below.refl _ V).alloc (Nat.le_refl _) _) hs⟩ ⟨hb.alloc _, hbel.alloc (by omega) _⟩ ⟨V.heap.size, hsz2, World.alloc_heap_new V _, rfl⟩
      case body =>
        rintro l pre x a' V hl hr ⟨hb, hbel⟩ ⟨Bx, q1, q2, rfl⟩ hlt2
        have cB := hb.cell
        have fB := hb.frozen
        have x2 : V.cell? ⟨Bx, 2, none⟩ = some (.bool (whole bs x)) := by simp [World.cell?, q2]
        obtain ⟨m, hm⟩ : ∃ m, m = pre.countP fun p => !whole bs p := ⟨_, rfl⟩
        have hcl := List.countP_le_length (p := fun p => !whole bs p) (l := pre)
        rw [← hm] at hcl hb cB
        have HM := Lib.hid hm
        have hm16 : m < 17 := by omega
        clear hm hcl
        cases hwh : whole bs x
        · rw [hwh] at x2
          gi_wp2
          refine ⟨(KeepsOthers.setCell _ _ _).from _, ⟨⟨(Below.refl _ V).setCell (p := ⟨W.heap.size + 1, 0, none⟩) (Nat.le_refl _) _, (KeepsOthers.setCell _ _ _).walks⟩, fun s hs => ?_⟩, ⟨by simpa [List.countP_append, hwh, ← HM.out] using hb.set (.int .i64 ((m : Int) + 1)), hbel.setCell (p := ⟨W.heap.size + 1, 0, none⟩) (Nat.le_refl _) _⟩⟩
          rw [World.cell?_of_block (Below.heap_setCell V ⟨W.heap.size + 1, 0, none⟩ _ B0 (show B0 ≠ W.heap.size + 1 by have := HB0.out; omega))]; exact hs
        · rw [hwh] at x2
          gi_wp2
          exact ⟨(KeepsOthers.refl _).from _, ⟨⟨Below.refl _ V, (KeepsOthers.refl _).walks⟩, fun s hs => hs⟩, ⟨by simpa [List.countP_append, hwh, ← HM.out] using hb, hbel⟩⟩
      case done =>
        rintro D ys V hD rfl ⟨hb, hbel⟩ hK
        have cB := hb.cell
        rw [show (posL bs).countP (fun p => !whole bs p) = n from hbad.out] at cB
        have vR : V.heap[W.heap.size]? = some (.cells #[.string bs, .string rs, .int .i64 n] 26 (0, 0)) := (hbel.block _ (by omega)).trans HQR.out
        have v1 : V.cell? ⟨W.heap.size, 0, none⟩ = some (.string bs) := by simp [World.cell?, vR]
        have v2 : V.cell? ⟨W.heap.size, 1, none⟩ = some (.string rs) := by simp [World.cell?, vR]
        have v3 : V.cell? ⟨W.heap.size, 2, none⟩ = some (.int .i64 n) := by simp [World.cell?, vR]
        go_wp2_with fail
        refine Code.wp_mono (Q := fun e a w9 => match e with | .normal => Below V.heap.size V w9 ∧ ∃ z36 z37 z38 z39 z40 z41 z42 z43 z44 z45 z46 z47 z48 : Value, a = { tmps := #[.bool false, undef, .pointer (some ⟨W.heap.size, 0, none⟩), .pointer (some ⟨W.heap.size + 1, 0, none⟩), undef, undef, .bool false, .bool true, .bool false, .bool false, t10, t11, t12, t13, t14, t15, t16, t17, t18, .slice (some ⟨w0.heap.size, 0, none⟩) 9 9, .int .i64 9, .int .i64 (k : Nat), .bool true, .pointer (some ⟨w0.heap.size, k * 3, none⟩), .agg #[.string bs, .string rs, .int .i64 n], .pointer (some ⟨W.heap.size, 0, none⟩), .string bs, .slice (some ⟨W.heap.size + 1 + 1, 0, none⟩) bs.size cb, .func (.func 32) #[] #[.pointer (some ⟨B0, 0, none⟩)], undef, undef, undef, undef, undef, undef, undef, z36, z37, z38, z39, z40, z41, z42, z43, z44, z45, z46, z47, z48, .bool false, u50], defers := { target := .collected D, args := #[] } :: Ds.map fun D => { target := .collected D, args := #[] } } | _ => False) ?_ (names_test W.heap.size (W.heap.size + 1) n bs rs V hsz hrun.out cB v1 v2 v3 (fun z36 z37 z38 z39 z40 z41 z42 z43 z44 z45 z46 z47 z48 w' h => ⟨h, z36, z37, z38, z39, z40, z41, z42, z43, z44, z45, z46, z47, z48, rfl⟩) (fun _ _ _ => rfl))
        intro e a w9 h
        cases e with
        | normal =>
          obtain ⟨hb9, z36, z37, z38, z39, z40, z41, z42, z43, z44, z45, z46, z47, z48, rfl⟩ := h
          rename_i a0
          refine a0 _ _ ?_
          go_wp2_with fail
          have hVW : Below W.heap.size W V := HQ0.out.trans (hbel.mono (Nat.le_succ _))
          have hW9 : Below W.heap.size W w9 := hVW.trans (hb9.mono hVW.size)
          have hlw := HW.out.size
          have hlq2 := HQ0.out.size
          have hdn : D ∉ Ds := fun h => by
            have := (Array.getElem?_eq_some_iff.1 (HD.out D h).2).1
            omega
          refine ⟨⟨k + 1, D :: Ds, _, _, _, _, _, _, _, _, _, _, _, _, _, _, _, _, _, _, _, _, _, _, _, _, _, _, _, _, _, _, _, _, _, rfl, by omega, HW.out.trans (hW9.mono hlw), fun E hE => ?_, List.nodup_cons.2 ⟨hdn, HN.out⟩⟩, by simp [intOf]; omega⟩
          rcases List.mem_cons.1 hE with rfl | hE
          · exact ⟨by omega, (hb9.block _ (Array.getElem?_eq_some_iff.1 hK).1).trans hK⟩
          · exact ⟨(HD.out E hE).1, (hW9.block _ (Array.getElem?_eq_some_iff.1 (HD.out E hE).2).1).trans (HD.out E hE).2⟩
        | _ => exact h.elim
      case stop =>
        rintro D c pre V _ _ h _
        exact h.elim
    · obtain rfl : k = 9 := by omega
      go_wp2_with fail
      refine leaves_marks W1.heap.size Ds W HN.out HD.out HW.out.size fun w' hw' => ?_
      exact ⟨_, results_tmp rfl _ _ _, rfl, H1.out.trans ((HW.out.trans hw').mono H1.out.size)⟩
end Go.Proofs.YtcnbfpmognijcaaDoor
