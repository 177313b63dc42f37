/- The last region of StepLanguage, whatever order is drawn. -/
import Derived.Test.YtcnbfpmognijcaaDoorGave
import Derived.Test.YtcnbfpmognijcaaDoorRegionP
import Derived.Test.YtcnbfpmognijcaaDoorRegionOf
namespace Go.Proofs.YtcnbfpmognijcaaDoor
open Go.RowKit Galley Go.Proofs.YtcnbfpmognijcaaDoorW.PrintWords

theorem lang_op0 : ∃ ty pos aft, langOps[0]? = some ⟨some 54, Op.move (.tmp 5), ty, pos, aft, none⟩ := ⟨_, _, _, rfl⟩
theorem lang_op1 : ∃ ty pos aft, langOps[1]? = some ⟨some 55, Op.move (.tmp 3), ty, pos, aft, none⟩ := ⟨_, _, _, rfl⟩
theorem lang_op2 : ∃ ty pos aft, langOps[2]? = some ⟨some 56, Op.call { callee := .builtin .len, args := #[.tmp 55], argTypes := #[35] }, ty, pos, aft, none⟩ := ⟨_, _, _, rfl⟩
theorem lang_op3 : ∃ ty pos aft, langOps[3]? = some ⟨some 57, Op.binOp .eql 3 (.tmp 54) (.tmp 56) 3, ty, pos, aft, none⟩ := ⟨_, _, _, rfl⟩
theorem lang_op4 : ∃ ty pos aft, langOps[4]? = some ⟨some 58, Op.move (.tmp 57), ty, pos, aft, none⟩ := ⟨_, _, _, rfl⟩
theorem lang_op5 : ∃ ty pos aft, langOps[5]? = some ⟨some 59, Op.move (.tmp 8), ty, pos, aft, some (4, true)⟩ := ⟨_, _, _, rfl⟩
theorem lang_op6 : ∃ ty pos aft, langOps[6]? = some ⟨some 60, Op.move (.tmp 0), ty, pos, aft, some (4, true)⟩ := ⟨_, _, _, rfl⟩
theorem lang_op7 : ∃ ty pos aft, langOps[7]? = some ⟨some 61, Op.convert 22 9 (.tmp 60), ty, pos, aft, some (4, true)⟩ := ⟨_, _, _, rfl⟩
theorem lang_op8 : ∃ ty pos aft, langOps[8]? = some ⟨some 62, Op.convert 9 33 (.tmp 61), ty, pos, aft, some (4, true)⟩ := ⟨_, _, _, rfl⟩
theorem lang_op9 : ∃ ty pos aft, langOps[9]? = some ⟨some 63, Op.call { callee := .value (.func 15), args := #[.tmp 59, .tmp 62], argTypes := #[33, 33] }, ty, pos, aft, some (4, true)⟩ := ⟨_, _, _, rfl⟩
theorem lang_op10 : ∃ ty pos aft, langOps[10]? = some ⟨some 64, Op.pick (.tmp 58) (.tmp 63) (.const (.bool false)), ty, pos, aft, none⟩ := ⟨_, _, _, rfl⟩
theorem lang_op11 : ∃ ty pos aft, langOps[11]? = some ⟨some 65, Op.move (.tmp 64), ty, pos, aft, none⟩ := ⟨_, _, _, rfl⟩
theorem lang_op12 : ∃ ty pos aft, langOps[12]? = some ⟨some 66, Op.move (.tmp 0), ty, pos, aft, some (11, true)⟩ := ⟨_, _, _, rfl⟩
theorem lang_op13 : ∃ ty pos aft, langOps[13]? = some ⟨some 67, Op.call { callee := .value (.func 16), args := #[.tmp 66], argTypes := #[22] }, ty, pos, aft, some (11, true)⟩ := ⟨_, _, _, rfl⟩
theorem lang_op14 : ∃ ty pos aft, langOps[14]? = some ⟨some 68, Op.move (.tmp 8), ty, pos, aft, some (11, true)⟩ := ⟨_, _, _, rfl⟩
theorem lang_op15 : ∃ ty pos aft, langOps[15]? = some ⟨some 69, Op.convert 33 9 (.tmp 68), ty, pos, aft, some (11, true)⟩ := ⟨_, _, _, rfl⟩
theorem lang_op16 : ∃ ty pos aft, langOps[16]? = some ⟨some 70, Op.move (.tmp 0), ty, pos, aft, some (11, true)⟩ := ⟨_, _, _, rfl⟩
theorem lang_op17 : ∃ ty pos aft, langOps[17]? = some ⟨some 71, Op.convert 22 9 (.tmp 70), ty, pos, aft, some (11, true)⟩ := ⟨_, _, _, rfl⟩
theorem lang_op18 : ∃ ty pos aft, langOps[18]? = some ⟨some 72, Op.binOp .eql 9 (.tmp 69) (.tmp 71) 9, ty, pos, aft, some (11, true)⟩ := ⟨_, _, _, rfl⟩
theorem lang_op19 : ∃ ty pos aft, langOps[19]? = some ⟨some 73, Op.binOp .eql 4 (.tmp 67) (.tmp 72) 4, ty, pos, aft, some (11, true)⟩ := ⟨_, _, _, rfl⟩
theorem lang_op20 : ∃ ty pos aft, langOps[20]? = some ⟨some 74, Op.pick (.tmp 65) (.tmp 73) (.const (.bool false)), ty, pos, aft, none⟩ := ⟨_, _, _, rfl⟩
theorem lang_op21 : ∃ ty pos aft, langOps[21]? = some ⟨some 2, Op.assign (.tmp 74), ty, pos, aft, none⟩ := ⟨_, _, _, rfl⟩

theorem runs_of_R {w : World} {B : Nat} {ok : Nat → Prop} {v : Value} {l : List Int} (h : (Kd.int .i32).R 21 w B ok v l) : ∃ A c, v = .slice A l.length c ∧ Runs w A l := by
  obtain ⟨A, c, e, _, hr⟩ := Kd.R_reads h
  exact ⟨A, c, e, hr⟩
theorem runs_of_R' {w : World} {B : Nat} {ok : Nat → Prop} {A : Option Addr} {n c : Nat} {l : List Int} (h : (Kd.int .i32).R 21 w B ok (.slice A n c) l) : Runs w A l := (Kd.R_reads' h).2.2
theorem Runs.below {w w' : World} {A : Option Addr} {l : List Int} (h : Runs w A l) (hb : Below w.heap.size w w') : Runs w' A l := Kd.C_below h hb

set_option maxRecDepth 100000 in
set_option maxHeartbeats 4000000 in
theorem lang_last (A A1 Av : Option Addr) (c c1 cv n : Nat) (s : ByteArray) (w4 : World) (B : Nat) (ok : Nat → Prop) (hs : s.size ≤ 1073741824) (HY4 : Byt w4.drew A c s) (HR4 : (Kd.int .i32).R 21 w4.drew B ok (.slice Av (runesL s).length cv) (runesL s))
    {y1 y2 y4 y6 y7 y9 y10 y11 y12 y13 y14 y15 y16 y17 y18 y19 y20 y21 y22 y23 y24 y25 y26 y27 y28 y29 y30 y31 y32 y33 y34 y35 y36 y37 y38 y39 y40 y41 y42 y43 y44 y45 y46 y47 y48 y49 y50 y51 y52 y53 y54 y55 y56 y57 y58 y59 y60 y61 y62 y63 y64 y65 y66 y67 y68 y69 y70 y71 y72 y73 y74 : Value} {Q : Exit → Act → World → Prop} (hQ : ∀ a w', a.eval (.tmp 2) = .bool true → a.defers = [] → Below w4.heap.size w4 w' → Q .normal a w')
    (hpan : ∀ ch a w', Q (.panic ch) a w' = False) : (Code.region 14 langOps true).wp Tryd.prog Q { tmps := #[.slice A s.size c, y1, y2, .slice A1 n c1, y4, .int .i64 n, y6, y7, .slice Av (runesL s).length cv, y9, y10, y11, y12, y13, y14, y15, y16, y17, y18, y19, y20, y21, y22, y23, y24, y25, y26, y27, y28, y29, y30, y31, y32, y33, y34, y35, y36, y37, y38, y39, y40, y41, y42, y43, y44, y45, y46, y47, y48, y49, y50, y51, y52, y53, y54, y55, y56, y57, y58, y59, y60, y61, y62, y63, y64, y65, y66, y67, y68, y69, y70, y71, y72, y73, y74], defers := [] } w4 := by
  have hstr4 := HY4.str
  have hrl := runesL_length s
  have hpl := posL_length s
  obtain ⟨v5, W5, hrun5, hR5, hB5⟩ := runes_conv s w4.drew (by omega)
  obtain ⟨A5, c5, rfl, HV5⟩ := runs_of_R hR5
  have HB5 : Below w4.heap.size w4 W5 := ((Below.refl _ w4).drew).trans hB5
  have HY5 := HY4.below hB5
  have HR5 := Kd.R_below HR4 hB5
  have HV : ((runesBytes (runesL s)).toList == s.toList) = validB s := rfl
  have hn := fun (c : List UInt8) (ch : Act → World → Prop) => (c, ch)
  clear hn hB5 hR5
  obtain ⟨t0, p0, f0, o0⟩ := lang_op0
  obtain ⟨t1, p1, f1, o1⟩ := lang_op1
  obtain ⟨t2, p2, f2, o2⟩ := lang_op2
  obtain ⟨t3, p3, f3, o3⟩ := lang_op3
  obtain ⟨t4, p4, f4, o4⟩ := lang_op4
  obtain ⟨t5, p5, f5, o5⟩ := lang_op5
  obtain ⟨t6, p6, f6, o6⟩ := lang_op6
  obtain ⟨t7, p7, f7, o7⟩ := lang_op7
  obtain ⟨t8, p8, f8, o8⟩ := lang_op8
  obtain ⟨t9, p9, f9, o9⟩ := lang_op9
  obtain ⟨t10, p10, f10, o10⟩ := lang_op10
  obtain ⟨t11, p11, f11, o11⟩ := lang_op11
  obtain ⟨t12, p12, f12, o12⟩ := lang_op12
  obtain ⟨t13, p13, f13, o13⟩ := lang_op13
  obtain ⟨t14, p14, f14, o14⟩ := lang_op14
  obtain ⟨t15, p15, f15, o15⟩ := lang_op15
  obtain ⟨t16, p16, f16, o16⟩ := lang_op16
  obtain ⟨t17, p17, f17, o17⟩ := lang_op17
  obtain ⟨t18, p18, f18, o18⟩ := lang_op18
  obtain ⟨t19, p19, f19, o19⟩ := lang_op19
  obtain ⟨t20, p20, f20, o20⟩ := lang_op20
  obtain ⟨t21, p21, f21, o21⟩ := lang_op21
  refine wp_region_any (ops := langOps) (by kernel_rfl) ?_
  change wpAny _ _ _ _ 22 #[false, false, false, false, false, false, false, false, false, false, false, false, false, false, false, false, false, false, false, false, false, false] _ (World.drew _)
  refine wpAny_take (i := 0) (v := .int .i64 n) o0 (by kernel_rfl) (by kernel_rfl) (by kernel_rfl) (fun _ _ _ h => by rw [hpan] at h; exact h.elim) (Or.inl ⟨by kernel_rfl, fun w => by go_simp⟩) ?_
  simp only [Act.put, List.setIfInBounds_toArray, List.set_cons_zero, List.set_cons_succ]
  refine wpAny_take (i := 1) (v := .slice A1 n c1) o1 (by kernel_rfl) (by kernel_rfl) (by kernel_rfl) (fun _ _ _ h => by rw [hpan] at h; exact h.elim) (Or.inl ⟨by kernel_rfl, fun w => by go_simp⟩) ?_
  simp only [Act.put, List.setIfInBounds_toArray, List.set_cons_zero, List.set_cons_succ]
  refine wpAny_take (i := 2) (v := .int .i64 n) o2 (by kernel_rfl) (by kernel_rfl) (by kernel_rfl) (fun _ _ _ h => by rw [hpan] at h; exact h.elim) (Or.inl ⟨by kernel_rfl, fun w => by go_simp⟩) ?_
  simp only [Act.put, List.setIfInBounds_toArray, List.set_cons_zero, List.set_cons_succ]
  refine wpAny_take (i := 3) (v := .bool true) o3 (by kernel_rfl) (by kernel_rfl) (by kernel_rfl) (fun _ _ _ h => by rw [hpan] at h; exact h.elim) (Or.inl ⟨by kernel_rfl, fun w => by go_simp⟩) ?_
  simp only [Act.put, List.setIfInBounds_toArray, List.set_cons_zero, List.set_cons_succ]
  refine wpAny_take (i := 4) (v := .bool true) o4 (by kernel_rfl) (by kernel_rfl) (by kernel_rfl) (fun _ _ _ h => by rw [hpan] at h; exact h.elim) (Or.inl ⟨by kernel_rfl, fun w => by go_simp⟩) ?_
  simp only [Act.put, List.setIfInBounds_toArray, List.set_cons_zero, List.set_cons_succ]
  refine wpAny_take (i := 5) (v := .slice Av (runesL s).length cv) o5 (by kernel_rfl) (by kernel_rfl) (by kernel_rfl) (fun _ _ _ h => by rw [hpan] at h; exact h.elim) (Or.inl ⟨by kernel_rfl, fun w => by go_simp⟩) ?_
  simp only [Act.put, List.setIfInBounds_toArray, List.set_cons_zero, List.set_cons_succ]
  refine wpAny_take (i := 6) (v := .slice A s.size c) o6 (by kernel_rfl) (by kernel_rfl) (by kernel_rfl) (fun _ _ _ h => by rw [hpan] at h; exact h.elim) (Or.inl ⟨by kernel_rfl, fun w => by go_simp⟩) ?_
  simp only [Act.put, List.setIfInBounds_toArray, List.set_cons_zero, List.set_cons_succ]
  refine wpAny_ready (rs := [7]) (by kernel_rfl) (by simp) (AllReady.cons o7 (fun K hK => step_wanted (by kernel_rfl) (wp_convert 61 rfl rfl (v0 := .slice A s.size c) (by simp [Act.eval]) hstr4 (hK _ _ ?_))) AllReady.nil)
  simp only [Act.put, List.setIfInBounds_toArray, List.set_cons_zero, List.set_cons_succ]
  refine wpAny_ready (rs := [8]) (by kernel_rfl) (by simp) (AllReady.cons o8 (fun K hK => step_wanted (by kernel_rfl) (wp_convert 62 rfl rfl (v0 := .string s) (by simp [Act.eval]) hrun5 (hK _ _ ?_))) AllReady.nil)
  simp only [Act.put, List.setIfInBounds_toArray, List.set_cons_zero, List.set_cons_succ]
  refine wpAny_ready (rs := [9]) (by kernel_rfl) (by simp) (AllReady.cons o9 (fun K hK => step_wanted (by kernel_rfl) (wp_call 63 rfl rfl (enters_of Tryd.func15 (by kernel_rfl) rfl) (vs := #[.slice Av (runesL s).length cv, .slice A5 (runesL s).length c5]) (by simp [Act.eval]) (same_calls Av A5 cv c5 (runesL s) W5 (by omega) (runs_of_R' HR5) HV5) (fun w6 h6 => hK _ _ ?_))) AllReady.nil)
  have H6 := HB5.trans (h6.mono HB5.size)
  have HY6 := HY5.below h6
  have HR6 := Kd.R_below HR5 h6
  have q1 := HY6.str
  have q2 := runes_str _ _ _ _ _ HR6
  simp only [Act.put, List.setIfInBounds_toArray, List.set_cons_zero, List.set_cons_succ]
  refine wpAny_take (i := 10) (v := .bool true) o10 (by kernel_rfl) (by kernel_rfl) (by kernel_rfl) (fun _ _ _ h => by rw [hpan] at h; exact h.elim) (Or.inl ⟨by kernel_rfl, fun w => by go_simp⟩) ?_
  simp only [Act.put, List.setIfInBounds_toArray, List.set_cons_zero, List.set_cons_succ]
  refine wpAny_take (i := 11) (v := .bool true) o11 (by kernel_rfl) (by kernel_rfl) (by kernel_rfl) (fun _ _ _ h => by rw [hpan] at h; exact h.elim) (Or.inl ⟨by kernel_rfl, fun w => by go_simp⟩) ?_
  simp only [Act.put, List.setIfInBounds_toArray, List.set_cons_zero, List.set_cons_succ]
  refine wpAny_take (i := 12) (v := .slice A s.size c) o12 (by kernel_rfl) (by kernel_rfl) (by kernel_rfl) (fun _ _ _ h => by rw [hpan] at h; exact h.elim) (Or.inl ⟨by kernel_rfl, fun w => by go_simp⟩) ?_
  simp only [Act.put, List.setIfInBounds_toArray, List.set_cons_zero, List.set_cons_succ]
  refine wpAny_take (i := 14) (v := .slice Av (runesL s).length cv) o14 (by kernel_rfl) (by kernel_rfl) (by kernel_rfl) (fun _ _ _ h => by rw [hpan] at h; exact h.elim) (Or.inl ⟨by kernel_rfl, fun w => by go_simp⟩) ?_
  simp only [Act.put, List.setIfInBounds_toArray, List.set_cons_zero, List.set_cons_succ]
  refine wpAny_take (i := 16) (v := .slice A s.size c) o16 (by kernel_rfl) (by kernel_rfl) (by kernel_rfl) (fun _ _ _ h => by rw [hpan] at h; exact h.elim) (Or.inl ⟨by kernel_rfl, fun w => by go_simp⟩) ?_
  simp only [Act.put, List.setIfInBounds_toArray, List.set_cons_zero, List.set_cons_succ]
  refine wpAny_ready (rs := [13, 15, 17]) (by kernel_rfl) (by simp) (AllReady.cons o13 (fun K hK => step_wanted (by kernel_rfl) (wp_call 67 rfl rfl (enters_of Tryd.func16 (by kernel_rfl) rfl) (vs := #[.slice A s.size c]) (by simp [Act.eval]) (valid_calls _ _ _ _ HY6 (by omega)) (fun w7 h7 => hK _ _ ?_))) (AllReady.cons o15 (fun K hK => step_wanted (by kernel_rfl) (wp_convert 69 rfl rfl (v0 := .slice Av (runesL s).length cv) (by simp [Act.eval]) q2 (hK _ _ ?_))) (AllReady.cons o17 (fun K hK => step_wanted (by kernel_rfl) (wp_convert 71 rfl rfl (v0 := .slice A s.size c) (by simp [Act.eval]) q1 (hK _ _ ?_))) AllReady.nil)))
  · have H7 := H6.trans (h7.mono H6.size)
    have q3 := (HY6.below h7).str
    have q4 := runes_str _ _ _ _ _ (Kd.R_below HR6 h7)
    simp only [Act.put, List.setIfInBounds_toArray, List.set_cons_zero, List.set_cons_succ]
    refine wpAny_ready (rs := [15, 17]) (by kernel_rfl) (by simp) (AllReady.cons o15 (fun K hK => step_wanted (by kernel_rfl) (wp_convert 69 rfl rfl (v0 := .slice Av (runesL s).length cv) (by simp [Act.eval]) q4 (hK _ _ ?_))) (AllReady.cons o17 (fun K hK => step_wanted (by kernel_rfl) (wp_convert 71 rfl rfl (v0 := .slice A s.size c) (by simp [Act.eval]) q3 (hK _ _ ?_))) AllReady.nil))
    · simp only [Act.put, List.setIfInBounds_toArray, List.set_cons_zero, List.set_cons_succ]
      refine wpAny_ready (rs := [17]) (by kernel_rfl) (by simp) (AllReady.cons o17 (fun K hK => step_wanted (by kernel_rfl) (wp_convert 71 rfl rfl (v0 := .slice A s.size c) (by simp [Act.eval]) q3 (hK _ _ ?_))) AllReady.nil)
      · simp only [Act.put, List.setIfInBounds_toArray, List.set_cons_zero, List.set_cons_succ]
        refine wpAny_take (i := 18) (v := .bool (validB s)) o18 (by kernel_rfl) (by kernel_rfl) (by kernel_rfl) (fun _ _ _ h => by rw [hpan] at h; exact h.elim) (Or.inl ⟨by kernel_rfl, fun w => by go_simp⟩) ?_
        simp only [Act.put, List.setIfInBounds_toArray, List.set_cons_zero, List.set_cons_succ]
        refine wpAny_take (i := 19) (v := .bool true) o19 (by kernel_rfl) (by kernel_rfl) (by kernel_rfl) (fun _ _ _ h => by rw [hpan] at h; exact h.elim) (Or.inl ⟨by kernel_rfl, fun w => by go_simp⟩) ?_
        simp only [Act.put, List.setIfInBounds_toArray, List.set_cons_zero, List.set_cons_succ]
        refine wpAny_take (i := 20) (v := .bool true) o20 (by kernel_rfl) (by kernel_rfl) (by kernel_rfl) (fun _ _ _ h => by rw [hpan] at h; exact h.elim) (Or.inl ⟨by kernel_rfl, fun w => by go_simp⟩) ?_
        simp only [Act.put, List.setIfInBounds_toArray, List.set_cons_zero, List.set_cons_succ]
        refine wpAny_take (i := 21) (v := .bool true) o21 (by kernel_rfl) (by kernel_rfl) (by kernel_rfl) (fun _ _ _ h => by rw [hpan] at h; exact h.elim) (Or.inl ⟨by kernel_rfl, fun w => by go_simp⟩) ?_
        simp only [Act.put, List.setIfInBounds_toArray, List.set_cons_zero, List.set_cons_succ]
        refine wpAny_done (by kernel_rfl) ?_ _
        exact hQ _ _ (by simp [Act.eval]) rfl H7
    · simp only [Act.put, List.setIfInBounds_toArray, List.set_cons_zero, List.set_cons_succ]
      refine wpAny_ready (rs := [15]) (by kernel_rfl) (by simp) (AllReady.cons o15 (fun K hK => step_wanted (by kernel_rfl) (wp_convert 69 rfl rfl (v0 := .slice Av (runesL s).length cv) (by simp [Act.eval]) q4 (hK _ _ ?_))) AllReady.nil)
      · simp only [Act.put, List.setIfInBounds_toArray, List.set_cons_zero, List.set_cons_succ]
        refine wpAny_take (i := 18) (v := .bool (validB s)) o18 (by kernel_rfl) (by kernel_rfl) (by kernel_rfl) (fun _ _ _ h => by rw [hpan] at h; exact h.elim) (Or.inl ⟨by kernel_rfl, fun w => by go_simp⟩) ?_
        simp only [Act.put, List.setIfInBounds_toArray, List.set_cons_zero, List.set_cons_succ]
        refine wpAny_take (i := 19) (v := .bool true) o19 (by kernel_rfl) (by kernel_rfl) (by kernel_rfl) (fun _ _ _ h => by rw [hpan] at h; exact h.elim) (Or.inl ⟨by kernel_rfl, fun w => by go_simp⟩) ?_
        simp only [Act.put, List.setIfInBounds_toArray, List.set_cons_zero, List.set_cons_succ]
        refine wpAny_take (i := 20) (v := .bool true) o20 (by kernel_rfl) (by kernel_rfl) (by kernel_rfl) (fun _ _ _ h => by rw [hpan] at h; exact h.elim) (Or.inl ⟨by kernel_rfl, fun w => by go_simp⟩) ?_
        simp only [Act.put, List.setIfInBounds_toArray, List.set_cons_zero, List.set_cons_succ]
        refine wpAny_take (i := 21) (v := .bool true) o21 (by kernel_rfl) (by kernel_rfl) (by kernel_rfl) (fun _ _ _ h => by rw [hpan] at h; exact h.elim) (Or.inl ⟨by kernel_rfl, fun w => by go_simp⟩) ?_
        simp only [Act.put, List.setIfInBounds_toArray, List.set_cons_zero, List.set_cons_succ]
        refine wpAny_done (by kernel_rfl) ?_ _
        exact hQ _ _ (by simp [Act.eval]) rfl H7
  · simp only [Act.put, List.setIfInBounds_toArray, List.set_cons_zero, List.set_cons_succ]
    refine wpAny_ready (rs := [13, 17]) (by kernel_rfl) (by simp) (AllReady.cons o13 (fun K hK => step_wanted (by kernel_rfl) (wp_call 67 rfl rfl (enters_of Tryd.func16 (by kernel_rfl) rfl) (vs := #[.slice A s.size c]) (by simp [Act.eval]) (valid_calls _ _ _ _ HY6 (by omega)) (fun w7 h7 => hK _ _ ?_))) (AllReady.cons o17 (fun K hK => step_wanted (by kernel_rfl) (wp_convert 71 rfl rfl (v0 := .slice A s.size c) (by simp [Act.eval]) q1 (hK _ _ ?_))) AllReady.nil))
    · have H7 := H6.trans (h7.mono H6.size)
      have q3 := (HY6.below h7).str
      have q4 := runes_str _ _ _ _ _ (Kd.R_below HR6 h7)
      simp only [Act.put, List.setIfInBounds_toArray, List.set_cons_zero, List.set_cons_succ]
      refine wpAny_ready (rs := [17]) (by kernel_rfl) (by simp) (AllReady.cons o17 (fun K hK => step_wanted (by kernel_rfl) (wp_convert 71 rfl rfl (v0 := .slice A s.size c) (by simp [Act.eval]) q3 (hK _ _ ?_))) AllReady.nil)
      · simp only [Act.put, List.setIfInBounds_toArray, List.set_cons_zero, List.set_cons_succ]
        refine wpAny_take (i := 18) (v := .bool (validB s)) o18 (by kernel_rfl) (by kernel_rfl) (by kernel_rfl) (fun _ _ _ h => by rw [hpan] at h; exact h.elim) (Or.inl ⟨by kernel_rfl, fun w => by go_simp⟩) ?_
        simp only [Act.put, List.setIfInBounds_toArray, List.set_cons_zero, List.set_cons_succ]
        refine wpAny_take (i := 19) (v := .bool true) o19 (by kernel_rfl) (by kernel_rfl) (by kernel_rfl) (fun _ _ _ h => by rw [hpan] at h; exact h.elim) (Or.inl ⟨by kernel_rfl, fun w => by go_simp⟩) ?_
        simp only [Act.put, List.setIfInBounds_toArray, List.set_cons_zero, List.set_cons_succ]
        refine wpAny_take (i := 20) (v := .bool true) o20 (by kernel_rfl) (by kernel_rfl) (by kernel_rfl) (fun _ _ _ h => by rw [hpan] at h; exact h.elim) (Or.inl ⟨by kernel_rfl, fun w => by go_simp⟩) ?_
        simp only [Act.put, List.setIfInBounds_toArray, List.set_cons_zero, List.set_cons_succ]
        refine wpAny_take (i := 21) (v := .bool true) o21 (by kernel_rfl) (by kernel_rfl) (by kernel_rfl) (fun _ _ _ h => by rw [hpan] at h; exact h.elim) (Or.inl ⟨by kernel_rfl, fun w => by go_simp⟩) ?_
        simp only [Act.put, List.setIfInBounds_toArray, List.set_cons_zero, List.set_cons_succ]
        refine wpAny_done (by kernel_rfl) ?_ _
        exact hQ _ _ (by simp [Act.eval]) rfl H7
    · simp only [Act.put, List.setIfInBounds_toArray, List.set_cons_zero, List.set_cons_succ]
      refine wpAny_take (i := 18) (v := .bool (validB s)) o18 (by kernel_rfl) (by kernel_rfl) (by kernel_rfl) (fun _ _ _ h => by rw [hpan] at h; exact h.elim) (Or.inl ⟨by kernel_rfl, fun w => by go_simp⟩) ?_
      simp only [Act.put, List.setIfInBounds_toArray, List.set_cons_zero, List.set_cons_succ]
      refine wpAny_ready (rs := [13]) (by kernel_rfl) (by simp) (AllReady.cons o13 (fun K hK => step_wanted (by kernel_rfl) (wp_call 67 rfl rfl (enters_of Tryd.func16 (by kernel_rfl) rfl) (vs := #[.slice A s.size c]) (by simp [Act.eval]) (valid_calls _ _ _ _ HY6 (by omega)) (fun w7 h7 => hK _ _ ?_))) AllReady.nil)
      · have H7 := H6.trans (h7.mono H6.size)
        have q3 := (HY6.below h7).str
        have q4 := runes_str _ _ _ _ _ (Kd.R_below HR6 h7)
        simp only [Act.put, List.setIfInBounds_toArray, List.set_cons_zero, List.set_cons_succ]
        refine wpAny_take (i := 19) (v := .bool true) o19 (by kernel_rfl) (by kernel_rfl) (by kernel_rfl) (fun _ _ _ h => by rw [hpan] at h; exact h.elim) (Or.inl ⟨by kernel_rfl, fun w => by go_simp⟩) ?_
        simp only [Act.put, List.setIfInBounds_toArray, List.set_cons_zero, List.set_cons_succ]
        refine wpAny_take (i := 20) (v := .bool true) o20 (by kernel_rfl) (by kernel_rfl) (by kernel_rfl) (fun _ _ _ h => by rw [hpan] at h; exact h.elim) (Or.inl ⟨by kernel_rfl, fun w => by go_simp⟩) ?_
        simp only [Act.put, List.setIfInBounds_toArray, List.set_cons_zero, List.set_cons_succ]
        refine wpAny_take (i := 21) (v := .bool true) o21 (by kernel_rfl) (by kernel_rfl) (by kernel_rfl) (fun _ _ _ h => by rw [hpan] at h; exact h.elim) (Or.inl ⟨by kernel_rfl, fun w => by go_simp⟩) ?_
        simp only [Act.put, List.setIfInBounds_toArray, List.set_cons_zero, List.set_cons_succ]
        refine wpAny_done (by kernel_rfl) ?_ _
        exact hQ _ _ (by simp [Act.eval]) rfl H7
  · simp only [Act.put, List.setIfInBounds_toArray, List.set_cons_zero, List.set_cons_succ]
    refine wpAny_ready (rs := [13, 15]) (by kernel_rfl) (by simp) (AllReady.cons o13 (fun K hK => step_wanted (by kernel_rfl) (wp_call 67 rfl rfl (enters_of Tryd.func16 (by kernel_rfl) rfl) (vs := #[.slice A s.size c]) (by simp [Act.eval]) (valid_calls _ _ _ _ HY6 (by omega)) (fun w7 h7 => hK _ _ ?_))) (AllReady.cons o15 (fun K hK => step_wanted (by kernel_rfl) (wp_convert 69 rfl rfl (v0 := .slice Av (runesL s).length cv) (by simp [Act.eval]) q2 (hK _ _ ?_))) AllReady.nil))
    · have H7 := H6.trans (h7.mono H6.size)
      have q3 := (HY6.below h7).str
      have q4 := runes_str _ _ _ _ _ (Kd.R_below HR6 h7)
      simp only [Act.put, List.setIfInBounds_toArray, List.set_cons_zero, List.set_cons_succ]
      refine wpAny_ready (rs := [15]) (by kernel_rfl) (by simp) (AllReady.cons o15 (fun K hK => step_wanted (by kernel_rfl) (wp_convert 69 rfl rfl (v0 := .slice Av (runesL s).length cv) (by simp [Act.eval]) q4 (hK _ _ ?_))) AllReady.nil)
      · simp only [Act.put, List.setIfInBounds_toArray, List.set_cons_zero, List.set_cons_succ]
        refine wpAny_take (i := 18) (v := .bool (validB s)) o18 (by kernel_rfl) (by kernel_rfl) (by kernel_rfl) (fun _ _ _ h => by rw [hpan] at h; exact h.elim) (Or.inl ⟨by kernel_rfl, fun w => by go_simp⟩) ?_
        simp only [Act.put, List.setIfInBounds_toArray, List.set_cons_zero, List.set_cons_succ]
        refine wpAny_take (i := 19) (v := .bool true) o19 (by kernel_rfl) (by kernel_rfl) (by kernel_rfl) (fun _ _ _ h => by rw [hpan] at h; exact h.elim) (Or.inl ⟨by kernel_rfl, fun w => by go_simp⟩) ?_
        simp only [Act.put, List.setIfInBounds_toArray, List.set_cons_zero, List.set_cons_succ]
        refine wpAny_take (i := 20) (v := .bool true) o20 (by kernel_rfl) (by kernel_rfl) (by kernel_rfl) (fun _ _ _ h => by rw [hpan] at h; exact h.elim) (Or.inl ⟨by kernel_rfl, fun w => by go_simp⟩) ?_
        simp only [Act.put, List.setIfInBounds_toArray, List.set_cons_zero, List.set_cons_succ]
        refine wpAny_take (i := 21) (v := .bool true) o21 (by kernel_rfl) (by kernel_rfl) (by kernel_rfl) (fun _ _ _ h => by rw [hpan] at h; exact h.elim) (Or.inl ⟨by kernel_rfl, fun w => by go_simp⟩) ?_
        simp only [Act.put, List.setIfInBounds_toArray, List.set_cons_zero, List.set_cons_succ]
        refine wpAny_done (by kernel_rfl) ?_ _
        exact hQ _ _ (by simp [Act.eval]) rfl H7
    · simp only [Act.put, List.setIfInBounds_toArray, List.set_cons_zero, List.set_cons_succ]
      refine wpAny_take (i := 18) (v := .bool (validB s)) o18 (by kernel_rfl) (by kernel_rfl) (by kernel_rfl) (fun _ _ _ h => by rw [hpan] at h; exact h.elim) (Or.inl ⟨by kernel_rfl, fun w => by go_simp⟩) ?_
      simp only [Act.put, List.setIfInBounds_toArray, List.set_cons_zero, List.set_cons_succ]
      refine wpAny_ready (rs := [13]) (by kernel_rfl) (by simp) (AllReady.cons o13 (fun K hK => step_wanted (by kernel_rfl) (wp_call 67 rfl rfl (enters_of Tryd.func16 (by kernel_rfl) rfl) (vs := #[.slice A s.size c]) (by simp [Act.eval]) (valid_calls _ _ _ _ HY6 (by omega)) (fun w7 h7 => hK _ _ ?_))) AllReady.nil)
      · have H7 := H6.trans (h7.mono H6.size)
        have q3 := (HY6.below h7).str
        have q4 := runes_str _ _ _ _ _ (Kd.R_below HR6 h7)
        simp only [Act.put, List.setIfInBounds_toArray, List.set_cons_zero, List.set_cons_succ]
        refine wpAny_take (i := 19) (v := .bool true) o19 (by kernel_rfl) (by kernel_rfl) (by kernel_rfl) (fun _ _ _ h => by rw [hpan] at h; exact h.elim) (Or.inl ⟨by kernel_rfl, fun w => by go_simp⟩) ?_
        simp only [Act.put, List.setIfInBounds_toArray, List.set_cons_zero, List.set_cons_succ]
        refine wpAny_take (i := 20) (v := .bool true) o20 (by kernel_rfl) (by kernel_rfl) (by kernel_rfl) (fun _ _ _ h => by rw [hpan] at h; exact h.elim) (Or.inl ⟨by kernel_rfl, fun w => by go_simp⟩) ?_
        simp only [Act.put, List.setIfInBounds_toArray, List.set_cons_zero, List.set_cons_succ]
        refine wpAny_take (i := 21) (v := .bool true) o21 (by kernel_rfl) (by kernel_rfl) (by kernel_rfl) (fun _ _ _ h => by rw [hpan] at h; exact h.elim) (Or.inl ⟨by kernel_rfl, fun w => by go_simp⟩) ?_
        simp only [Act.put, List.setIfInBounds_toArray, List.set_cons_zero, List.set_cons_succ]
        refine wpAny_done (by kernel_rfl) ?_ _
        exact hQ _ _ (by simp [Act.eval]) rfl H7
end Go.Proofs.YtcnbfpmognijcaaDoor
