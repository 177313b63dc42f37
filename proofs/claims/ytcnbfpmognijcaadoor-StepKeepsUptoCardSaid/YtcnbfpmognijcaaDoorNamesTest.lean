/- Region 11 of StepNames (the test of one row of the table), whatever order is drawn. -/
import Derived.Test.YtcnbfpmognijcaaDoorWalkB
import Derived.Test.YtcnbfpmognijcaaDoorRegionP
import Derived.Test.YtcnbfpmognijcaaDoorRegionOf
namespace Go.Proofs.YtcnbfpmognijcaaDoor
open Go.RowKit Galley Go.Proofs.YtcnbfpmognijcaaDoorW.PrintWords
attribute [local go_sem ↓] field0 field1 field2

noncomputable def nameOps : Array Oper := opsOf Tryd.f4 11
theorem name_op0 : ∃ ty pos aft, nameOps[0]? = some ⟨some 36, Op.load 3 (.tmp 3), ty, pos, aft, none⟩ := ⟨_, _, _, rfl⟩
theorem name_op1 : ∃ ty pos aft, nameOps[1]? = some ⟨some 37, Op.fieldAddr 26 (.tmp 2) 2, ty, pos, aft, none⟩ := ⟨_, _, _, rfl⟩
theorem name_op2 : ∃ ty pos aft, nameOps[2]? = some ⟨some 38, Op.load 3 (.tmp 37), ty, pos, aft, none⟩ := ⟨_, _, _, rfl⟩
theorem name_op3 : ∃ ty pos aft, nameOps[3]? = some ⟨some 39, Op.binOp .neq 3 (.tmp 36) (.tmp 38) 3, ty, pos, aft, none⟩ := ⟨_, _, _, rfl⟩
theorem name_op4 : ∃ ty pos aft, nameOps[4]? = some ⟨some 40, Op.move (.tmp 39), ty, pos, aft, none⟩ := ⟨_, _, _, rfl⟩
theorem name_op5 : ∃ ty pos aft, nameOps[5]? = some ⟨some 41, Op.fieldAddr 26 (.tmp 2) 0, ty, pos, aft, some (4, false)⟩ := ⟨_, _, _, rfl⟩
theorem name_op6 : ∃ ty pos aft, nameOps[6]? = some ⟨some 42, Op.load 9 (.tmp 41), ty, pos, aft, some (4, false)⟩ := ⟨_, _, _, rfl⟩
theorem name_op7 : ∃ ty pos aft, nameOps[7]? = some ⟨some 43, Op.convert 9 22 (.tmp 42), ty, pos, aft, some (4, false)⟩ := ⟨_, _, _, rfl⟩
theorem name_op8 : ∃ ty pos aft, nameOps[8]? = some ⟨some 44, Op.call { callee := .value (.func 13), args := #[.tmp 43], argTypes := #[22] }, ty, pos, aft, some (4, false)⟩ := ⟨_, _, _, rfl⟩
theorem name_op9 : ∃ ty pos aft, nameOps[9]? = some ⟨some 45, Op.convert 33 9 (.tmp 44), ty, pos, aft, some (4, false)⟩ := ⟨_, _, _, rfl⟩
theorem name_op10 : ∃ ty pos aft, nameOps[10]? = some ⟨some 46, Op.fieldAddr 26 (.tmp 2) 1, ty, pos, aft, some (4, false)⟩ := ⟨_, _, _, rfl⟩
theorem name_op11 : ∃ ty pos aft, nameOps[11]? = some ⟨some 47, Op.load 9 (.tmp 46), ty, pos, aft, some (4, false)⟩ := ⟨_, _, _, rfl⟩
theorem name_op12 : ∃ ty pos aft, nameOps[12]? = some ⟨some 48, Op.binOp .neq 9 (.tmp 45) (.tmp 47) 9, ty, pos, aft, some (4, false)⟩ := ⟨_, _, _, rfl⟩
theorem name_op13 : ∃ ty pos aft, nameOps[13]? = some ⟨some 49, Op.pick (.tmp 40) (.const (.bool true)) (.tmp 48), ty, pos, aft, none⟩ := ⟨_, _, _, rfl⟩

theorem wp_value {P : Program} {o : Oper} {a : Act} {w : World} {K : Act → World → Prop} {Q : Exit → Act → World → Prop} {v : Value} (d : Tmp) (hd : o.dst = some d)
    (hrun : (execOp a.eval o).run P w = .ok (.value v) w) (hK : K (a.put (some d) v) w) : o.wp P a w K Q := by
  rw [← hd] at hK
  unfold Oper.wp
  simp only [hrun, Oper.upon]
  exact hK
theorem wp_callx {P : Program} {o : Oper} {a : Act} {w : World} {K : Act → World → Prop} {Q : Exit → Act → World → Prop} {f : Nat} {args : Array Operand} {tys : Array TypeId} {vs : Array Value} {R : Value → World → Prop} (d : Tmp) (hd : o.dst = some d)
    (hop : o.op = Op.call { callee := .value (.func f), args := args, argTypes := tys }) (hen : ∀ args w, (callFunc f args).run P w = .ok (.enter f args) w) (hx : args.map a.eval = vs)
    (hc : Calls P f vs w fun e w' => ∃ v, e = .returned v ∧ R v w') (hK : ∀ v w', R v w' → K (a.put (some d) v) w') : o.wp P a w K Q := by
  subst hx
  unfold Oper.wp execOp
  simp only [hop]
  have e : a.eval (.func f) = .func (.func f) #[] #[] := rfl
  simp [resolve, invoke, e, Deferred.ofValue, hen, Oper.upon]
  refine hc.mono ?_
  rintro e w' ⟨v, rfl, hR⟩
  have := hK v w' hR
  rwa [← hd] at this

set_option maxRecDepth 100000 in
set_option maxHeartbeats 4000000 in
theorem names_test (Br Bc n : Nat) (bs rs : ByteArray) (w : World) (hs : bs.size ≤ 16) (hrun : runesBytes (runesL bs) = rs) (c0 : w.cell? ⟨Bc, 0, none⟩ = some (.int .i64 n)) (c1 : w.cell? ⟨Br, 0, none⟩ = some (.string bs)) (c2 : w.cell? ⟨Br, 1, none⟩ = some (.string rs)) (c3 : w.cell? ⟨Br, 2, none⟩ = some (.int .i64 n))
    {y0 y1 y4 y5 y6 y7 y8 y9 y10 y11 y12 y13 y14 y15 y16 y17 y18 y19 y20 y21 y22 y23 y24 y25 y26 y27 y28 y29 y30 y31 y32 y33 y34 y35 y36 y37 y38 y39 y40 y41 y42 y43 y44 y45 y46 y47 y48 y49 y50 : Value} {ds : List Deferred} {Q : Exit → Act → World → Prop} (hQ : ∀ z36 z37 z38 z39 z40 z41 z42 z43 z44 z45 z46 z47 z48 w', Below w.heap.size w w' → Q .normal { tmps := #[y0, y1, .pointer (some ⟨Br, 0, none⟩), .pointer (some ⟨Bc, 0, none⟩), y4, y5, y6, y7, y8, y9, y10, y11, y12, y13, y14, y15, y16, y17, y18, y19, y20, y21, y22, y23, y24, y25, y26, y27, y28, y29, y30, y31, y32, y33, y34, y35, z36, z37, z38, z39, z40, z41, z42, z43, z44, z45, z46, z47, z48, .bool false, y50], defers := ds } w')
    (hpan : ∀ ch a w', Q (.panic ch) a w' = False) : (Code.region 11 nameOps true).wp Tryd.prog Q { tmps := #[y0, y1, .pointer (some ⟨Br, 0, none⟩), .pointer (some ⟨Bc, 0, none⟩), y4, y5, y6, y7, y8, y9, y10, y11, y12, y13, y14, y15, y16, y17, y18, y19, y20, y21, y22, y23, y24, y25, y26, y27, y28, y29, y30, y31, y32, y33, y34, y35, y36, y37, y38, y39, y40, y41, y42, y43, y44, y45, y46, y47, y48, y49, y50], defers := ds } w := by
  have d0 : w.drew.cell? ⟨Bc, 0, none⟩ = some (.int .i64 n) := c0
  have d1 : w.drew.cell? ⟨Br, 0, none⟩ = some (.string bs) := c1
  have d2 : w.drew.cell? ⟨Br, 1, none⟩ = some (.string rs) := c2
  have d3 : w.drew.cell? ⟨Br, 2, none⟩ = some (.int .i64 n) := c3
  have hrl := runesL_length bs
  have hpl := posL_length bs
  obtain ⟨cb, W7, hcv, hby, hB7, hz7⟩ := bytes_conv bs w.drew (by omega)
  have HB7 : Below w.heap.size w W7 := ((Below.refl _ w).drew).trans hB7
  have e2 : W7.cell? ⟨Br, 1, none⟩ = some (.string rs) := cell_stays hB7 d2
  obtain ⟨t0, p0, f0, o0⟩ := name_op0
  obtain ⟨t1, p1, f1, o1⟩ := name_op1
  obtain ⟨t2, p2, f2, o2⟩ := name_op2
  obtain ⟨t3, p3, f3, o3⟩ := name_op3
  obtain ⟨t4, p4, f4, o4⟩ := name_op4
  obtain ⟨t5, p5, f5, o5⟩ := name_op5
  obtain ⟨t6, p6, f6, o6⟩ := name_op6
  obtain ⟨t7, p7, f7, o7⟩ := name_op7
  obtain ⟨t8, p8, f8, o8⟩ := name_op8
  obtain ⟨t9, p9, f9, o9⟩ := name_op9
  obtain ⟨t10, p10, f10, o10⟩ := name_op10
  obtain ⟨t11, p11, f11, o11⟩ := name_op11
  obtain ⟨t12, p12, f12, o12⟩ := name_op12
  obtain ⟨t13, p13, f13, o13⟩ := name_op13
  refine wp_region_any (ops := nameOps) (by kernel_rfl) ?_
  change wpAny _ _ _ _ 14 #[false, false, false, false, false, false, false, false, false, false, false, false, false, false] _ (World.drew _)
  refine wpAny_take (i := 1) (v := .pointer (some ⟨Br, 2, none⟩)) o1 (by kernel_rfl) (by kernel_rfl) (by kernel_rfl) (fun _ _ _ h => by rw [hpan] at h; exact h.elim) (Or.inl ⟨by kernel_rfl, fun w => by go_simp⟩) ?_
  simp only [Act.put, List.setIfInBounds_toArray, List.set_cons_zero, List.set_cons_succ]
  refine wpAny_ready (rs := [0, 2]) (by kernel_rfl) (by simp) (AllReady.cons o0 (fun K hK => step_wanted (by kernel_rfl) (wp_value 36 rfl (v := .int .i64 n) (by go_simp) (hK _ _ ?_))) (AllReady.cons o2 (fun K hK => step_wanted (by kernel_rfl) (wp_value 38 rfl (v := .int .i64 n) (by go_simp) (hK _ _ ?_))) AllReady.nil))
  · simp only [Act.put, List.setIfInBounds_toArray, List.set_cons_zero, List.set_cons_succ]
    refine wpAny_ready (rs := [2]) (by kernel_rfl) (by simp) (AllReady.cons o2 (fun K hK => step_wanted (by kernel_rfl) (wp_value 38 rfl (v := .int .i64 n) (by go_simp) (hK _ _ ?_))) AllReady.nil)
    simp only [Act.put, List.setIfInBounds_toArray, List.set_cons_zero, List.set_cons_succ]
    refine wpAny_take (i := 3) (v := .bool false) o3 (by kernel_rfl) (by kernel_rfl) (by kernel_rfl) (fun _ _ _ h => by rw [hpan] at h; exact h.elim) (Or.inl ⟨by kernel_rfl, fun w => by go_simp⟩) ?_
    simp only [Act.put, List.setIfInBounds_toArray, List.set_cons_zero, List.set_cons_succ]
    refine wpAny_take (i := 4) (v := .bool false) o4 (by kernel_rfl) (by kernel_rfl) (by kernel_rfl) (fun _ _ _ h => by rw [hpan] at h; exact h.elim) (Or.inl ⟨by kernel_rfl, fun w => by go_simp⟩) ?_
    simp only [Act.put, List.setIfInBounds_toArray, List.set_cons_zero, List.set_cons_succ]
    refine wpAny_take (i := 5) (v := .pointer (some ⟨Br, 0, none⟩)) o5 (by kernel_rfl) (by kernel_rfl) (by kernel_rfl) (fun _ _ _ h => by rw [hpan] at h; exact h.elim) (Or.inl ⟨by kernel_rfl, fun w => by go_simp⟩) ?_
    simp only [Act.put, List.setIfInBounds_toArray, List.set_cons_zero, List.set_cons_succ]
    refine wpAny_take (i := 10) (v := .pointer (some ⟨Br, 1, none⟩)) o10 (by kernel_rfl) (by kernel_rfl) (by kernel_rfl) (fun _ _ _ h => by rw [hpan] at h; exact h.elim) (Or.inl ⟨by kernel_rfl, fun w => by go_simp⟩) ?_
    simp only [Act.put, List.setIfInBounds_toArray, List.set_cons_zero, List.set_cons_succ]
    refine wpAny_ready (rs := [6, 11]) (by kernel_rfl) (by simp) (AllReady.cons o6 (fun K hK => step_wanted (by kernel_rfl) (wp_value 42 rfl (v := .string bs) (by go_simp) (hK _ _ ?_))) (AllReady.cons o11 (fun K hK => step_wanted (by kernel_rfl) (wp_value 47 rfl (v := .string rs) (by go_simp) (hK _ _ ?_))) AllReady.nil))
    · simp only [Act.put, List.setIfInBounds_toArray, List.set_cons_zero, List.set_cons_succ]
      refine wpAny_ready (rs := [7, 11]) (by kernel_rfl) (by simp) (AllReady.cons o7 (fun K hK => step_wanted (by kernel_rfl) (wp_convert 43 rfl rfl (v0 := .string bs) (by simp [Act.eval]) hcv (hK _ _ ?_))) (AllReady.cons o11 (fun K hK => step_wanted (by kernel_rfl) (wp_value 47 rfl (v := .string rs) (by go_simp) (hK _ _ ?_))) AllReady.nil))
      · simp only [Act.put, List.setIfInBounds_toArray, List.set_cons_zero, List.set_cons_succ]
        refine wpAny_ready (rs := [8, 11]) (by kernel_rfl) (by simp) (AllReady.cons o8 (fun K hK => step_wanted (by kernel_rfl) (wp_callx 44 rfl rfl (enters_of Tryd.func13 (by kernel_rfl) rfl) (vs := #[.slice (some ⟨w.drew.heap.size, 0, none⟩) bs.size cb]) (by simp [Act.eval]) (runes_calls _ _ _ _ hby (by omega)) (fun v5 w8 h8 => hK _ _ ?_))) (AllReady.cons o11 (fun K hK => step_wanted (by kernel_rfl) (wp_value 47 rfl (v := .string rs) (by go_simp) (hK _ _ ?_))) AllReady.nil))
        · obtain ⟨hR8, h8⟩ := h8
          have q9 := runes_str _ _ _ _ _ hR8
          have H8 := HB7.trans (h8.mono HB7.size)
          have g2 := cell_stays h8 e2
          rw [hrun] at q9
          obtain ⟨A5, c5, rfl, hV8⟩ := runs_of_R hR8
          simp only [Act.put, List.setIfInBounds_toArray, List.set_cons_zero, List.set_cons_succ]
          refine wpAny_ready (rs := [9, 11]) (by kernel_rfl) (by simp) (AllReady.cons o9 (fun K hK => step_wanted (by kernel_rfl) (wp_convert 45 rfl rfl (v0 := .slice A5 (runesL bs).length c5) (by simp [Act.eval]) q9 (hK _ _ ?_))) (AllReady.cons o11 (fun K hK => step_wanted (by kernel_rfl) (wp_value 47 rfl (v := .string rs) (by go_simp) (hK _ _ ?_))) AllReady.nil))
          · simp only [Act.put, List.setIfInBounds_toArray, List.set_cons_zero, List.set_cons_succ]
            refine wpAny_ready (rs := [11]) (by kernel_rfl) (by simp) (AllReady.cons o11 (fun K hK => step_wanted (by kernel_rfl) (wp_value 47 rfl (v := .string rs) (by go_simp) (hK _ _ ?_))) AllReady.nil)
            simp only [Act.put, List.setIfInBounds_toArray, List.set_cons_zero, List.set_cons_succ]
            refine wpAny_take (i := 12) (v := .bool false) o12 (by kernel_rfl) (by kernel_rfl) (by kernel_rfl) (fun _ _ _ h => by rw [hpan] at h; exact h.elim) (Or.inl ⟨by kernel_rfl, fun w => by go_simp⟩) ?_
            simp only [Act.put, List.setIfInBounds_toArray, List.set_cons_zero, List.set_cons_succ]
            refine wpAny_take (i := 13) (v := .bool false) o13 (by kernel_rfl) (by kernel_rfl) (by kernel_rfl) (fun _ _ _ h => by rw [hpan] at h; exact h.elim) (Or.inl ⟨by kernel_rfl, fun w => by go_simp⟩) ?_
            simp only [Act.put, List.setIfInBounds_toArray, List.set_cons_zero, List.set_cons_succ]
            refine wpAny_done (by kernel_rfl) ?_ _
            exact hQ _ _ _ _ _ _ _ _ _ _ _ _ _ _ H8
          · simp only [Act.put, List.setIfInBounds_toArray, List.set_cons_zero, List.set_cons_succ]
            refine wpAny_ready (rs := [9]) (by kernel_rfl) (by simp) (AllReady.cons o9 (fun K hK => step_wanted (by kernel_rfl) (wp_convert 45 rfl rfl (v0 := .slice A5 (runesL bs).length c5) (by simp [Act.eval]) q9 (hK _ _ ?_))) AllReady.nil)
            simp only [Act.put, List.setIfInBounds_toArray, List.set_cons_zero, List.set_cons_succ]
            refine wpAny_take (i := 12) (v := .bool false) o12 (by kernel_rfl) (by kernel_rfl) (by kernel_rfl) (fun _ _ _ h => by rw [hpan] at h; exact h.elim) (Or.inl ⟨by kernel_rfl, fun w => by go_simp⟩) ?_
            simp only [Act.put, List.setIfInBounds_toArray, List.set_cons_zero, List.set_cons_succ]
            refine wpAny_take (i := 13) (v := .bool false) o13 (by kernel_rfl) (by kernel_rfl) (by kernel_rfl) (fun _ _ _ h => by rw [hpan] at h; exact h.elim) (Or.inl ⟨by kernel_rfl, fun w => by go_simp⟩) ?_
            simp only [Act.put, List.setIfInBounds_toArray, List.set_cons_zero, List.set_cons_succ]
            refine wpAny_done (by kernel_rfl) ?_ _
            exact hQ _ _ _ _ _ _ _ _ _ _ _ _ _ _ H8
        · simp only [Act.put, List.setIfInBounds_toArray, List.set_cons_zero, List.set_cons_succ]
          refine wpAny_ready (rs := [8]) (by kernel_rfl) (by simp) (AllReady.cons o8 (fun K hK => step_wanted (by kernel_rfl) (wp_callx 44 rfl rfl (enters_of Tryd.func13 (by kernel_rfl) rfl) (vs := #[.slice (some ⟨w.drew.heap.size, 0, none⟩) bs.size cb]) (by simp [Act.eval]) (runes_calls _ _ _ _ hby (by omega)) (fun v5 w8 h8 => hK _ _ ?_))) AllReady.nil)
          obtain ⟨hR8, h8⟩ := h8
          have q9 := runes_str _ _ _ _ _ hR8
          have H8 := HB7.trans (h8.mono HB7.size)
          have g2 := cell_stays h8 e2
          rw [hrun] at q9
          obtain ⟨A5, c5, rfl, hV8⟩ := runs_of_R hR8
          simp only [Act.put, List.setIfInBounds_toArray, List.set_cons_zero, List.set_cons_succ]
          refine wpAny_ready (rs := [9]) (by kernel_rfl) (by simp) (AllReady.cons o9 (fun K hK => step_wanted (by kernel_rfl) (wp_convert 45 rfl rfl (v0 := .slice A5 (runesL bs).length c5) (by simp [Act.eval]) q9 (hK _ _ ?_))) AllReady.nil)
          simp only [Act.put, List.setIfInBounds_toArray, List.set_cons_zero, List.set_cons_succ]
          refine wpAny_take (i := 12) (v := .bool false) o12 (by kernel_rfl) (by kernel_rfl) (by kernel_rfl) (fun _ _ _ h => by rw [hpan] at h; exact h.elim) (Or.inl ⟨by kernel_rfl, fun w => by go_simp⟩) ?_
          simp only [Act.put, List.setIfInBounds_toArray, List.set_cons_zero, List.set_cons_succ]
          refine wpAny_take (i := 13) (v := .bool false) o13 (by kernel_rfl) (by kernel_rfl) (by kernel_rfl) (fun _ _ _ h => by rw [hpan] at h; exact h.elim) (Or.inl ⟨by kernel_rfl, fun w => by go_simp⟩) ?_
          simp only [Act.put, List.setIfInBounds_toArray, List.set_cons_zero, List.set_cons_succ]
          refine wpAny_done (by kernel_rfl) ?_ _
          exact hQ _ _ _ _ _ _ _ _ _ _ _ _ _ _ H8
      · simp only [Act.put, List.setIfInBounds_toArray, List.set_cons_zero, List.set_cons_succ]
        refine wpAny_ready (rs := [7]) (by kernel_rfl) (by simp) (AllReady.cons o7 (fun K hK => step_wanted (by kernel_rfl) (wp_convert 43 rfl rfl (v0 := .string bs) (by simp [Act.eval]) hcv (hK _ _ ?_))) AllReady.nil)
        simp only [Act.put, List.setIfInBounds_toArray, List.set_cons_zero, List.set_cons_succ]
        refine wpAny_ready (rs := [8]) (by kernel_rfl) (by simp) (AllReady.cons o8 (fun K hK => step_wanted (by kernel_rfl) (wp_callx 44 rfl rfl (enters_of Tryd.func13 (by kernel_rfl) rfl) (vs := #[.slice (some ⟨w.drew.heap.size, 0, none⟩) bs.size cb]) (by simp [Act.eval]) (runes_calls _ _ _ _ hby (by omega)) (fun v5 w8 h8 => hK _ _ ?_))) AllReady.nil)
        obtain ⟨hR8, h8⟩ := h8
        have q9 := runes_str _ _ _ _ _ hR8
        have H8 := HB7.trans (h8.mono HB7.size)
        have g2 := cell_stays h8 e2
        rw [hrun] at q9
        obtain ⟨A5, c5, rfl, hV8⟩ := runs_of_R hR8
        simp only [Act.put, List.setIfInBounds_toArray, List.set_cons_zero, List.set_cons_succ]
        refine wpAny_ready (rs := [9]) (by kernel_rfl) (by simp) (AllReady.cons o9 (fun K hK => step_wanted (by kernel_rfl) (wp_convert 45 rfl rfl (v0 := .slice A5 (runesL bs).length c5) (by simp [Act.eval]) q9 (hK _ _ ?_))) AllReady.nil)
        simp only [Act.put, List.setIfInBounds_toArray, List.set_cons_zero, List.set_cons_succ]
        refine wpAny_take (i := 12) (v := .bool false) o12 (by kernel_rfl) (by kernel_rfl) (by kernel_rfl) (fun _ _ _ h => by rw [hpan] at h; exact h.elim) (Or.inl ⟨by kernel_rfl, fun w => by go_simp⟩) ?_
        simp only [Act.put, List.setIfInBounds_toArray, List.set_cons_zero, List.set_cons_succ]
        refine wpAny_take (i := 13) (v := .bool false) o13 (by kernel_rfl) (by kernel_rfl) (by kernel_rfl) (fun _ _ _ h => by rw [hpan] at h; exact h.elim) (Or.inl ⟨by kernel_rfl, fun w => by go_simp⟩) ?_
        simp only [Act.put, List.setIfInBounds_toArray, List.set_cons_zero, List.set_cons_succ]
        refine wpAny_done (by kernel_rfl) ?_ _
        exact hQ _ _ _ _ _ _ _ _ _ _ _ _ _ _ H8
    · simp only [Act.put, List.setIfInBounds_toArray, List.set_cons_zero, List.set_cons_succ]
      refine wpAny_ready (rs := [6]) (by kernel_rfl) (by simp) (AllReady.cons o6 (fun K hK => step_wanted (by kernel_rfl) (wp_value 42 rfl (v := .string bs) (by go_simp) (hK _ _ ?_))) AllReady.nil)
      simp only [Act.put, List.setIfInBounds_toArray, List.set_cons_zero, List.set_cons_succ]
      refine wpAny_ready (rs := [7]) (by kernel_rfl) (by simp) (AllReady.cons o7 (fun K hK => step_wanted (by kernel_rfl) (wp_convert 43 rfl rfl (v0 := .string bs) (by simp [Act.eval]) hcv (hK _ _ ?_))) AllReady.nil)
      simp only [Act.put, List.setIfInBounds_toArray, List.set_cons_zero, List.set_cons_succ]
      refine wpAny_ready (rs := [8]) (by kernel_rfl) (by simp) (AllReady.cons o8 (fun K hK => step_wanted (by kernel_rfl) (wp_callx 44 rfl rfl (enters_of Tryd.func13 (by kernel_rfl) rfl) (vs := #[.slice (some ⟨w.drew.heap.size, 0, none⟩) bs.size cb]) (by simp [Act.eval]) (runes_calls _ _ _ _ hby (by omega)) (fun v5 w8 h8 => hK _ _ ?_))) AllReady.nil)
      obtain ⟨hR8, h8⟩ := h8
      have q9 := runes_str _ _ _ _ _ hR8
      have H8 := HB7.trans (h8.mono HB7.size)
      have g2 := cell_stays h8 e2
      rw [hrun] at q9
      obtain ⟨A5, c5, rfl, hV8⟩ := runs_of_R hR8
      simp only [Act.put, List.setIfInBounds_toArray, List.set_cons_zero, List.set_cons_succ]
      refine wpAny_ready (rs := [9]) (by kernel_rfl) (by simp) (AllReady.cons o9 (fun K hK => step_wanted (by kernel_rfl) (wp_convert 45 rfl rfl (v0 := .slice A5 (runesL bs).length c5) (by simp [Act.eval]) q9 (hK _ _ ?_))) AllReady.nil)
      simp only [Act.put, List.setIfInBounds_toArray, List.set_cons_zero, List.set_cons_succ]
      refine wpAny_take (i := 12) (v := .bool false) o12 (by kernel_rfl) (by kernel_rfl) (by kernel_rfl) (fun _ _ _ h => by rw [hpan] at h; exact h.elim) (Or.inl ⟨by kernel_rfl, fun w => by go_simp⟩) ?_
      simp only [Act.put, List.setIfInBounds_toArray, List.set_cons_zero, List.set_cons_succ]
      refine wpAny_take (i := 13) (v := .bool false) o13 (by kernel_rfl) (by kernel_rfl) (by kernel_rfl) (fun _ _ _ h => by rw [hpan] at h; exact h.elim) (Or.inl ⟨by kernel_rfl, fun w => by go_simp⟩) ?_
      simp only [Act.put, List.setIfInBounds_toArray, List.set_cons_zero, List.set_cons_succ]
      refine wpAny_done (by kernel_rfl) ?_ _
      exact hQ _ _ _ _ _ _ _ _ _ _ _ _ _ _ H8
  · simp only [Act.put, List.setIfInBounds_toArray, List.set_cons_zero, List.set_cons_succ]
    refine wpAny_ready (rs := [0]) (by kernel_rfl) (by simp) (AllReady.cons o0 (fun K hK => step_wanted (by kernel_rfl) (wp_value 36 rfl (v := .int .i64 n) (by go_simp) (hK _ _ ?_))) AllReady.nil)
    simp only [Act.put, List.setIfInBounds_toArray, List.set_cons_zero, List.set_cons_succ]
    refine wpAny_take (i := 3) (v := .bool false) o3 (by kernel_rfl) (by kernel_rfl) (by kernel_rfl) (fun _ _ _ h => by rw [hpan] at h; exact h.elim) (Or.inl ⟨by kernel_rfl, fun w => by go_simp⟩) ?_
    simp only [Act.put, List.setIfInBounds_toArray, List.set_cons_zero, List.set_cons_succ]
    refine wpAny_take (i := 4) (v := .bool false) o4 (by kernel_rfl) (by kernel_rfl) (by kernel_rfl) (fun _ _ _ h => by rw [hpan] at h; exact h.elim) (Or.inl ⟨by kernel_rfl, fun w => by go_simp⟩) ?_
    simp only [Act.put, List.setIfInBounds_toArray, List.set_cons_zero, List.set_cons_succ]
    refine wpAny_take (i := 5) (v := .pointer (some ⟨Br, 0, none⟩)) o5 (by kernel_rfl) (by kernel_rfl) (by kernel_rfl) (fun _ _ _ h => by rw [hpan] at h; exact h.elim) (Or.inl ⟨by kernel_rfl, fun w => by go_simp⟩) ?_
    simp only [Act.put, List.setIfInBounds_toArray, List.set_cons_zero, List.set_cons_succ]
    refine wpAny_take (i := 10) (v := .pointer (some ⟨Br, 1, none⟩)) o10 (by kernel_rfl) (by kernel_rfl) (by kernel_rfl) (fun _ _ _ h => by rw [hpan] at h; exact h.elim) (Or.inl ⟨by kernel_rfl, fun w => by go_simp⟩) ?_
    simp only [Act.put, List.setIfInBounds_toArray, List.set_cons_zero, List.set_cons_succ]
    refine wpAny_ready (rs := [6, 11]) (by kernel_rfl) (by simp) (AllReady.cons o6 (fun K hK => step_wanted (by kernel_rfl) (wp_value 42 rfl (v := .string bs) (by go_simp) (hK _ _ ?_))) (AllReady.cons o11 (fun K hK => step_wanted (by kernel_rfl) (wp_value 47 rfl (v := .string rs) (by go_simp) (hK _ _ ?_))) AllReady.nil))
    · simp only [Act.put, List.setIfInBounds_toArray, List.set_cons_zero, List.set_cons_succ]
      refine wpAny_ready (rs := [7, 11]) (by kernel_rfl) (by simp) (AllReady.cons o7 (fun K hK => step_wanted (by kernel_rfl) (wp_convert 43 rfl rfl (v0 := .string bs) (by simp [Act.eval]) hcv (hK _ _ ?_))) (AllReady.cons o11 (fun K hK => step_wanted (by kernel_rfl) (wp_value 47 rfl (v := .string rs) (by go_simp) (hK _ _ ?_))) AllReady.nil))
      · simp only [Act.put, List.setIfInBounds_toArray, List.set_cons_zero, List.set_cons_succ]
        refine wpAny_ready (rs := [8, 11]) (by kernel_rfl) (by simp) (AllReady.cons o8 (fun K hK => step_wanted (by kernel_rfl) (wp_callx 44 rfl rfl (enters_of Tryd.func13 (by kernel_rfl) rfl) (vs := #[.slice (some ⟨w.drew.heap.size, 0, none⟩) bs.size cb]) (by simp [Act.eval]) (runes_calls _ _ _ _ hby (by omega)) (fun v5 w8 h8 => hK _ _ ?_))) (AllReady.cons o11 (fun K hK => step_wanted (by kernel_rfl) (wp_value 47 rfl (v := .string rs) (by go_simp) (hK _ _ ?_))) AllReady.nil))
        · obtain ⟨hR8, h8⟩ := h8
          have q9 := runes_str _ _ _ _ _ hR8
          have H8 := HB7.trans (h8.mono HB7.size)
          have g2 := cell_stays h8 e2
          rw [hrun] at q9
          obtain ⟨A5, c5, rfl, hV8⟩ := runs_of_R hR8
          simp only [Act.put, List.setIfInBounds_toArray, List.set_cons_zero, List.set_cons_succ]
          refine wpAny_ready (rs := [9, 11]) (by kernel_rfl) (by simp) (AllReady.cons o9 (fun K hK => step_wanted (by kernel_rfl) (wp_convert 45 rfl rfl (v0 := .slice A5 (runesL bs).length c5) (by simp [Act.eval]) q9 (hK _ _ ?_))) (AllReady.cons o11 (fun K hK => step_wanted (by kernel_rfl) (wp_value 47 rfl (v := .string rs) (by go_simp) (hK _ _ ?_))) AllReady.nil))
          · simp only [Act.put, List.setIfInBounds_toArray, List.set_cons_zero, List.set_cons_succ]
            refine wpAny_ready (rs := [11]) (by kernel_rfl) (by simp) (AllReady.cons o11 (fun K hK => step_wanted (by kernel_rfl) (wp_value 47 rfl (v := .string rs) (by go_simp) (hK _ _ ?_))) AllReady.nil)
            simp only [Act.put, List.setIfInBounds_toArray, List.set_cons_zero, List.set_cons_succ]
            refine wpAny_take (i := 12) (v := .bool false) o12 (by kernel_rfl) (by kernel_rfl) (by kernel_rfl) (fun _ _ _ h => by rw [hpan] at h; exact h.elim) (Or.inl ⟨by kernel_rfl, fun w => by go_simp⟩) ?_
            simp only [Act.put, List.setIfInBounds_toArray, List.set_cons_zero, List.set_cons_succ]
            refine wpAny_take (i := 13) (v := .bool false) o13 (by kernel_rfl) (by kernel_rfl) (by kernel_rfl) (fun _ _ _ h => by rw [hpan] at h; exact h.elim) (Or.inl ⟨by kernel_rfl, fun w => by go_simp⟩) ?_
            simp only [Act.put, List.setIfInBounds_toArray, List.set_cons_zero, List.set_cons_succ]
            refine wpAny_done (by kernel_rfl) ?_ _
            exact hQ _ _ _ _ _ _ _ _ _ _ _ _ _ _ H8
          · simp only [Act.put, List.setIfInBounds_toArray, List.set_cons_zero, List.set_cons_succ]
            refine wpAny_ready (rs := [9]) (by kernel_rfl) (by simp) (AllReady.cons o9 (fun K hK => step_wanted (by kernel_rfl) (wp_convert 45 rfl rfl (v0 := .slice A5 (runesL bs).length c5) (by simp [Act.eval]) q9 (hK _ _ ?_))) AllReady.nil)
            simp only [Act.put, List.setIfInBounds_toArray, List.set_cons_zero, List.set_cons_succ]
            refine wpAny_take (i := 12) (v := .bool false) o12 (by kernel_rfl) (by kernel_rfl) (by kernel_rfl) (fun _ _ _ h => by rw [hpan] at h; exact h.elim) (Or.inl ⟨by kernel_rfl, fun w => by go_simp⟩) ?_
            simp only [Act.put, List.setIfInBounds_toArray, List.set_cons_zero, List.set_cons_succ]
            refine wpAny_take (i := 13) (v := .bool false) o13 (by kernel_rfl) (by kernel_rfl) (by kernel_rfl) (fun _ _ _ h => by rw [hpan] at h; exact h.elim) (Or.inl ⟨by kernel_rfl, fun w => by go_simp⟩) ?_
            simp only [Act.put, List.setIfInBounds_toArray, List.set_cons_zero, List.set_cons_succ]
            refine wpAny_done (by kernel_rfl) ?_ _
            exact hQ _ _ _ _ _ _ _ _ _ _ _ _ _ _ H8
        · simp only [Act.put, List.setIfInBounds_toArray, List.set_cons_zero, List.set_cons_succ]
          refine wpAny_ready (rs := [8]) (by kernel_rfl) (by simp) (AllReady.cons o8 (fun K hK => step_wanted (by kernel_rfl) (wp_callx 44 rfl rfl (enters_of Tryd.func13 (by kernel_rfl) rfl) (vs := #[.slice (some ⟨w.drew.heap.size, 0, none⟩) bs.size cb]) (by simp [Act.eval]) (runes_calls _ _ _ _ hby (by omega)) (fun v5 w8 h8 => hK _ _ ?_))) AllReady.nil)
          obtain ⟨hR8, h8⟩ := h8
          have q9 := runes_str _ _ _ _ _ hR8
          have H8 := HB7.trans (h8.mono HB7.size)
          have g2 := cell_stays h8 e2
          rw [hrun] at q9
          obtain ⟨A5, c5, rfl, hV8⟩ := runs_of_R hR8
          simp only [Act.put, List.setIfInBounds_toArray, List.set_cons_zero, List.set_cons_succ]
          refine wpAny_ready (rs := [9]) (by kernel_rfl) (by simp) (AllReady.cons o9 (fun K hK => step_wanted (by kernel_rfl) (wp_convert 45 rfl rfl (v0 := .slice A5 (runesL bs).length c5) (by simp [Act.eval]) q9 (hK _ _ ?_))) AllReady.nil)
          simp only [Act.put, List.setIfInBounds_toArray, List.set_cons_zero, List.set_cons_succ]
          refine wpAny_take (i := 12) (v := .bool false) o12 (by kernel_rfl) (by kernel_rfl) (by kernel_rfl) (fun _ _ _ h => by rw [hpan] at h; exact h.elim) (Or.inl ⟨by kernel_rfl, fun w => by go_simp⟩) ?_
          simp only [Act.put, List.setIfInBounds_toArray, List.set_cons_zero, List.set_cons_succ]
          refine wpAny_take (i := 13) (v := .bool false) o13 (by kernel_rfl) (by kernel_rfl) (by kernel_rfl) (fun _ _ _ h => by rw [hpan] at h; exact h.elim) (Or.inl ⟨by kernel_rfl, fun w => by go_simp⟩) ?_
          simp only [Act.put, List.setIfInBounds_toArray, List.set_cons_zero, List.set_cons_succ]
          refine wpAny_done (by kernel_rfl) ?_ _
          exact hQ _ _ _ _ _ _ _ _ _ _ _ _ _ _ H8
      · simp only [Act.put, List.setIfInBounds_toArray, List.set_cons_zero, List.set_cons_succ]
        refine wpAny_ready (rs := [7]) (by kernel_rfl) (by simp) (AllReady.cons o7 (fun K hK => step_wanted (by kernel_rfl) (wp_convert 43 rfl rfl (v0 := .string bs) (by simp [Act.eval]) hcv (hK _ _ ?_))) AllReady.nil)
        simp only [Act.put, List.setIfInBounds_toArray, List.set_cons_zero, List.set_cons_succ]
        refine wpAny_ready (rs := [8]) (by kernel_rfl) (by simp) (AllReady.cons o8 (fun K hK => step_wanted (by kernel_rfl) (wp_callx 44 rfl rfl (enters_of Tryd.func13 (by kernel_rfl) rfl) (vs := #[.slice (some ⟨w.drew.heap.size, 0, none⟩) bs.size cb]) (by simp [Act.eval]) (runes_calls _ _ _ _ hby (by omega)) (fun v5 w8 h8 => hK _ _ ?_))) AllReady.nil)
        obtain ⟨hR8, h8⟩ := h8
        have q9 := runes_str _ _ _ _ _ hR8
        have H8 := HB7.trans (h8.mono HB7.size)
        have g2 := cell_stays h8 e2
        rw [hrun] at q9
        obtain ⟨A5, c5, rfl, hV8⟩ := runs_of_R hR8
        simp only [Act.put, List.setIfInBounds_toArray, List.set_cons_zero, List.set_cons_succ]
        refine wpAny_ready (rs := [9]) (by kernel_rfl) (by simp) (AllReady.cons o9 (fun K hK => step_wanted (by kernel_rfl) (wp_convert 45 rfl rfl (v0 := .slice A5 (runesL bs).length c5) (by simp [Act.eval]) q9 (hK _ _ ?_))) AllReady.nil)
        simp only [Act.put, List.setIfInBounds_toArray, List.set_cons_zero, List.set_cons_succ]
        refine wpAny_take (i := 12) (v := .bool false) o12 (by kernel_rfl) (by kernel_rfl) (by kernel_rfl) (fun _ _ _ h => by rw [hpan] at h; exact h.elim) (Or.inl ⟨by kernel_rfl, fun w => by go_simp⟩) ?_
        simp only [Act.put, List.setIfInBounds_toArray, List.set_cons_zero, List.set_cons_succ]
        refine wpAny_take (i := 13) (v := .bool false) o13 (by kernel_rfl) (by kernel_rfl) (by kernel_rfl) (fun _ _ _ h => by rw [hpan] at h; exact h.elim) (Or.inl ⟨by kernel_rfl, fun w => by go_simp⟩) ?_
        simp only [Act.put, List.setIfInBounds_toArray, List.set_cons_zero, List.set_cons_succ]
        refine wpAny_done (by kernel_rfl) ?_ _
        exact hQ _ _ _ _ _ _ _ _ _ _ _ _ _ _ H8
    · simp only [Act.put, List.setIfInBounds_toArray, List.set_cons_zero, List.set_cons_succ]
      refine wpAny_ready (rs := [6]) (by kernel_rfl) (by simp) (AllReady.cons o6 (fun K hK => step_wanted (by kernel_rfl) (wp_value 42 rfl (v := .string bs) (by go_simp) (hK _ _ ?_))) AllReady.nil)
      simp only [Act.put, List.setIfInBounds_toArray, List.set_cons_zero, List.set_cons_succ]
      refine wpAny_ready (rs := [7]) (by kernel_rfl) (by simp) (AllReady.cons o7 (fun K hK => step_wanted (by kernel_rfl) (wp_convert 43 rfl rfl (v0 := .string bs) (by simp [Act.eval]) hcv (hK _ _ ?_))) AllReady.nil)
      simp only [Act.put, List.setIfInBounds_toArray, List.set_cons_zero, List.set_cons_succ]
      refine wpAny_ready (rs := [8]) (by kernel_rfl) (by simp) (AllReady.cons o8 (fun K hK => step_wanted (by kernel_rfl) (wp_callx 44 rfl rfl (enters_of Tryd.func13 (by kernel_rfl) rfl) (vs := #[.slice (some ⟨w.drew.heap.size, 0, none⟩) bs.size cb]) (by simp [Act.eval]) (runes_calls _ _ _ _ hby (by omega)) (fun v5 w8 h8 => hK _ _ ?_))) AllReady.nil)
      obtain ⟨hR8, h8⟩ := h8
      have q9 := runes_str _ _ _ _ _ hR8
      have H8 := HB7.trans (h8.mono HB7.size)
      have g2 := cell_stays h8 e2
      rw [hrun] at q9
      obtain ⟨A5, c5, rfl, hV8⟩ := runs_of_R hR8
      simp only [Act.put, List.setIfInBounds_toArray, List.set_cons_zero, List.set_cons_succ]
      refine wpAny_ready (rs := [9]) (by kernel_rfl) (by simp) (AllReady.cons o9 (fun K hK => step_wanted (by kernel_rfl) (wp_convert 45 rfl rfl (v0 := .slice A5 (runesL bs).length c5) (by simp [Act.eval]) q9 (hK _ _ ?_))) AllReady.nil)
      simp only [Act.put, List.setIfInBounds_toArray, List.set_cons_zero, List.set_cons_succ]
      refine wpAny_take (i := 12) (v := .bool false) o12 (by kernel_rfl) (by kernel_rfl) (by kernel_rfl) (fun _ _ _ h => by rw [hpan] at h; exact h.elim) (Or.inl ⟨by kernel_rfl, fun w => by go_simp⟩) ?_
      simp only [Act.put, List.setIfInBounds_toArray, List.set_cons_zero, List.set_cons_succ]
      refine wpAny_take (i := 13) (v := .bool false) o13 (by kernel_rfl) (by kernel_rfl) (by kernel_rfl) (fun _ _ _ h => by rw [hpan] at h; exact h.elim) (Or.inl ⟨by kernel_rfl, fun w => by go_simp⟩) ?_
      simp only [Act.put, List.setIfInBounds_toArray, List.set_cons_zero, List.set_cons_succ]
      refine wpAny_done (by kernel_rfl) ?_ _
      exact hQ _ _ _ _ _ _ _ _ _ _ _ _ _ _ H8
end Go.Proofs.YtcnbfpmognijcaaDoor
