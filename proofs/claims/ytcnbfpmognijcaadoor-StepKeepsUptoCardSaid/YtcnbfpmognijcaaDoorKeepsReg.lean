/- Region 5 of StepKeeps (two iterators, one of them boxed), whatever order is drawn. -/
import Derived.Test.YtcnbfpmognijcaaDoorKeepsA
import Derived.Test.YtcnbfpmognijcaaDoorNamesTest
namespace Go.Proofs.YtcnbfpmognijcaaDoor
open Go.RowKit Go.Shelf Galley Go.Proofs.YtcnbfpmognijcaaDoorW.PrintWords Go.Many

noncomputable def keepOps : Array Oper := opsOf Tryd.f9 5
theorem keep_op0 : ∃ ty pos aft, keepOps[0]? = some ⟨some 43, Op.move (.tmp 3), ty, pos, aft, none⟩ := ⟨_, _, _, rfl⟩
theorem keep_op1 : ∃ ty pos aft, keepOps[1]? = some ⟨some 44, Op.move (.tmp 4), ty, pos, aft, none⟩ := ⟨_, _, _, rfl⟩
theorem keep_op2 : ∃ ty pos aft, keepOps[2]? = some ⟨some 45, Op.slice 22 (.tmp 43) none (some (.tmp 44)) none, ty, pos, aft, none⟩ := ⟨_, _, _, rfl⟩
theorem keep_op3 : ∃ ty pos aft, keepOps[3]? = some ⟨some 46, Op.call { callee := .value (.func 12), args := #[.tmp 45], argTypes := #[22] }, ty, pos, aft, none⟩ := ⟨_, _, _, rfl⟩
theorem keep_op4 : ∃ ty pos aft, keepOps[4]? = some ⟨some 47, Op.move (.tmp 3), ty, pos, aft, none⟩ := ⟨_, _, _, rfl⟩
theorem keep_op5 : ∃ ty pos aft, keepOps[5]? = some ⟨some 48, Op.move (.tmp 4), ty, pos, aft, none⟩ := ⟨_, _, _, rfl⟩
theorem keep_op6 : ∃ ty pos aft, keepOps[6]? = some ⟨some 49, Op.slice 22 (.tmp 47) none (some (.tmp 48)) none, ty, pos, aft, none⟩ := ⟨_, _, _, rfl⟩
theorem keep_op7 : ∃ ty pos aft, keepOps[7]? = some ⟨some 50, Op.call { callee := .value (.func 26), args := #[.tmp 49], argTypes := #[22] }, ty, pos, aft, none⟩ := ⟨_, _, _, rfl⟩
theorem keep_op8 : ∃ ty pos aft, keepOps[8]? = some ⟨some 5, Op.alloc 29, ty, pos, aft, none⟩ := ⟨_, _, _, rfl⟩
theorem keep_op9 : ∃ ty pos aft, keepOps[9]? = some ⟨none, Op.store 29 (.tmp 5) (.tmp 46), ty, pos, aft, none⟩ := ⟨_, _, _, rfl⟩
theorem keep_op10 : ∃ ty pos aft, keepOps[10]? = some ⟨some 6, Op.assign (.tmp 50), ty, pos, aft, none⟩ := ⟨_, _, _, rfl⟩

theorem wp_made {P : Program} {o : Oper} {a : Act} {w w' : World} {K : Act → World → Prop} {Q : Exit → Act → World → Prop} {v : Value} (d : Tmp) (hd : o.dst = some d)
    (hrun : (execOp a.eval o).run P w = .ok (.value v) w') (hK : K (a.put (some d) v) w') : o.wp P a w K Q := by
  rw [← hd] at hK
  unfold Oper.wp
  simp only [hrun, Oper.upon]
  exact hK
theorem wp_skip {P : Program} {o : Oper} {a : Act} {w w' : World} {K : Act → World → Prop} {Q : Exit → Act → World → Prop}
    (hd : o.dst = none) (hrun : (execOp a.eval o).run P w = .ok .skip w') (hK : K a w') : o.wp P a w K Q := by
  unfold Oper.wp
  simp only [hrun, Oper.upon, hd]
  exact hK
theorem run_store_at (P : Program) (w : World) (a : Addr) (v u : Value) (hv : v.oneCell' = true) (hc : w.cell? a = some u) (hf : w.frozen? a = false) : (store a v).run P w = .ok () (w.setCell a v) := by
  rw [run_store _ _ _ _ _ hv]
  simp [hc, hf]
theorem byt_block {w w' : World} {g c : Nat} {s : ByteArray} (h : Byt w (some ⟨g, 0, none⟩) c s) (hb : w'.heap[g]? = w.heap[g]?) : Byt w' (some ⟨g, 0, none⟩) c s := by
  have h1 := Kd.reads_of_C (enc := Value.int .u8) (d := (0 : Int)) (h1 := fun _ => rfl) h.reads
  refine ⟨Kd.C_of_reads (enc := Value.int .u8) (d := (0 : Int)) ⟨h1.1, h1.2.1, fun hp => ?_⟩, h.cap, h.small⟩
  obtain ⟨x, hx, h2⟩ := h1.2.2 hp
  cases hx
  refine ⟨_, rfl, fun j hj => ?_⟩
  rw [← h2 j hj, add_none]
  exact World.cell?_of_block (a := ⟨g, j, none⟩) hb
theorem byt_lt {w : World} {g c : Nat} {s : ByteArray} (h : Byt w (some ⟨g, 0, none⟩) c s) : s.size = 0 ∨ g < w.heap.size := by
  rcases Nat.eq_zero_or_pos s.size with h0 | h0
  · exact .inl h0
  · have hl : 0 < (byteV s).length := by rw [byteV_length]; exact h0
    have := h.cells _ rfl 0 _ (List.getElem?_eq_getElem hl)
    rw [add_none] at this
    exact .inr (World.block_lt_of_cell? w _ this)
theorem byt_move {w w' : World} {g c : Nat} {s : ByteArray} (h : Byt w (some ⟨g, 0, none⟩) c s) (hm : s.size = 0 ∨ w'.heap[g]? = w.heap[g]?) : Byt w' (some ⟨g, 0, none⟩) c s := by
  rcases hm with h0 | hm
  · refine ⟨Kd.C_of_reads (enc := Value.int .u8) (d := (0 : Int)) ⟨rfl, ?_, fun hp => ?_⟩, h.cap, h.small⟩
    · rw [bytesOf_length]; omega
    · rw [bytesOf_length] at hp; omega
  · exact byt_block h hm
theorem boxed_below {w w' : World} {B : Nat} {t : TypeId} {v : Value} (h : Boxed w B t v) (hb : Below w.heap.size w w') : Boxed w' B t v := (hb.block _ h.lt).trans h
theorem back_calls' (A : Option Addr) (c : Nat) (s : ByteArray) (w : World) (hb : Byt w A c s) :
    Calls Tryd.prog 26 #[.slice A s.size c] w fun e w' => ∃ v, e = .returned v ∧ (∃ A' c' B0, v = .func (.func 38) #[] #[.pointer (some ⟨B0, 0, none⟩)] ∧ w'.cell? ⟨B0, 0, none⟩ = some (.slice A' s.size c') ∧ Byt w' A' c' s ∧ w.heap.size ≤ B0 ∧ (∃ g, A' = some ⟨g, 0, none⟩ ∧ w.heap.size ≤ g) ∧ Below w.heap.size w w') :=
  (Back_calls A c s w hb).mono fun _ _ ⟨A', c', B0, h1, h2⟩ => ⟨_, h1, A', c', B0, rfl, h2⟩
theorem nilFunc_info : (Tryd.prog.info? 29).map (fun i => (i.zero, i.size, i.bytes)) = some (some .nilFunc, 1, 8) := by kernel_rfl

set_option maxRecDepth 100000 in
set_option maxHeartbeats 4000000 in
theorem keeps_reg (R : Nat) (s : ByteArray) (w : World) (hs : s.size ≤ 1073741824) (hb : Byt w (some ⟨R, 0, none⟩) (s.size + 3) s) (hR : R < w.heap.size)
    {y0 y1 y2 y5 y6 y7 y8 y9 y10 y11 y12 y13 y14 y15 y16 y17 y18 y19 y20 y21 y22 y23 y24 y25 y26 y27 y28 y29 y30 y31 y32 y33 y34 y35 y36 y37 y38 y39 y40 y41 y42 y43 y44 y45 y46 y47 y48 y49 y50 y51 y52 y53 y54 y55 y56 y57 y58 y59 y60 y61 y62 y63 y64 y65 y66 y67 y68 y69 y70 y71 y72 y73 y74 y75 y76 y77 y78 y79 y80 y81 y82 y83 y84 y85 y86 y87 y88 y89 y90 y91 y92 y93 y94 y95 y96 y97 y98 y99 y100 y101 y102 y103 y104 y105 y106 y107 y108 y109 y110 y111 y112 y113 y114 y115 y116 y117 y118 y119 y120 y121 y122 y123 y124 y125 y126 y127 y128 y129 y130 y131 y132 y133 y134 y135 y136 y137 y138 y139 y140 y141 y142 y143 y144 y145 y146 y147 y148 y149 y150 y151 y152 y153 y154 y155 y156 y157 y158 y159 y160 y161 y162 y163 y164 y165 y166 y167 y168 y169 y170 y171 y172 y173 y174 y175 y176 y177 y178 y179 y180 y181 y182 y183 y184 y185 y186 y187 y188 y189 y190 y191 y192 y193 y194 y195 y196 y197 y198 y199 y200 y201 y202 y203 y204 y205 y206 y207 y208 y209 y210 y211 y212 y213 y214 y215 y216 y217 y218 y219 y220 y221 y222 y223 y224 y225 y226 y227 y228 y229 y230 y231 y232 y233 : Value} {Q : Exit → Act → World → Prop} (hQ : ∀ z43 z44 z45 z46 z47 z48 z49 z50 (X5 BA BB : Nat) (A' : Option Addr) (c' : Nat) wx, Boxed wx X5 29 (.func (.func 32) #[] #[.pointer (some ⟨BA, 0, none⟩)]) → wx.cell? ⟨BA, 0, none⟩ = some (.string s) → wx.cell? ⟨BB, 0, none⟩ = some (.slice A' s.size c') → Byt wx A' c' s → R < BA → R < BB → R < X5 → (∃ g, A' = some ⟨g, 0, none⟩ ∧ R < g) → Below w.heap.size w wx → Q .normal { tmps := #[y0, y1, y2, .slice (some ⟨R, 0, none⟩) (s.size + 3) (s.size + 3), .int .i64 s.size, .pointer (some ⟨X5, 0, none⟩), .func (.func 38) #[] #[.pointer (some ⟨BB, 0, none⟩)], y7, y8, y9, y10, y11, y12, y13, y14, y15, y16, y17, y18, y19, y20, y21, y22, y23, y24, y25, y26, y27, y28, y29, y30, y31, y32, y33, y34, y35, y36, y37, y38, y39, y40, y41, y42, z43, z44, z45, z46, z47, z48, z49, z50, y51, y52, y53, y54, y55, y56, y57, y58, y59, y60, y61, y62, y63, y64, y65, y66, y67, y68, y69, y70, y71, y72, y73, y74, y75, y76, y77, y78, y79, y80, y81, y82, y83, y84, y85, y86, y87, y88, y89, y90, y91, y92, y93, y94, y95, y96, y97, y98, y99, y100, y101, y102, y103, y104, y105, y106, y107, y108, y109, y110, y111, y112, y113, y114, y115, y116, y117, y118, y119, y120, y121, y122, y123, y124, y125, y126, y127, y128, y129, y130, y131, y132, y133, y134, y135, y136, y137, y138, y139, y140, y141, y142, y143, y144, y145, y146, y147, y148, y149, y150, y151, y152, y153, y154, y155, y156, y157, y158, y159, y160, y161, y162, y163, y164, y165, y166, y167, y168, y169, y170, y171, y172, y173, y174, y175, y176, y177, y178, y179, y180, y181, y182, y183, y184, y185, y186, y187, y188, y189, y190, y191, y192, y193, y194, y195, y196, y197, y198, y199, y200, y201, y202, y203, y204, y205, y206, y207, y208, y209, y210, y211, y212, y213, y214, y215, y216, y217, y218, y219, y220, y221, y222, y223, y224, y225, y226, y227, y228, y229, y230, y231, y232, y233], defers := [] } wx)
    (hpan : ∀ ch a w', Q (.panic ch) a w' = False) : (Code.region 5 keepOps true).wp Tryd.prog Q { tmps := #[y0, y1, y2, .slice (some ⟨R, 0, none⟩) (s.size + 3) (s.size + 3), .int .i64 s.size, y5, y6, y7, y8, y9, y10, y11, y12, y13, y14, y15, y16, y17, y18, y19, y20, y21, y22, y23, y24, y25, y26, y27, y28, y29, y30, y31, y32, y33, y34, y35, y36, y37, y38, y39, y40, y41, y42, y43, y44, y45, y46, y47, y48, y49, y50, y51, y52, y53, y54, y55, y56, y57, y58, y59, y60, y61, y62, y63, y64, y65, y66, y67, y68, y69, y70, y71, y72, y73, y74, y75, y76, y77, y78, y79, y80, y81, y82, y83, y84, y85, y86, y87, y88, y89, y90, y91, y92, y93, y94, y95, y96, y97, y98, y99, y100, y101, y102, y103, y104, y105, y106, y107, y108, y109, y110, y111, y112, y113, y114, y115, y116, y117, y118, y119, y120, y121, y122, y123, y124, y125, y126, y127, y128, y129, y130, y131, y132, y133, y134, y135, y136, y137, y138, y139, y140, y141, y142, y143, y144, y145, y146, y147, y148, y149, y150, y151, y152, y153, y154, y155, y156, y157, y158, y159, y160, y161, y162, y163, y164, y165, y166, y167, y168, y169, y170, y171, y172, y173, y174, y175, y176, y177, y178, y179, y180, y181, y182, y183, y184, y185, y186, y187, y188, y189, y190, y191, y192, y193, y194, y195, y196, y197, y198, y199, y200, y201, y202, y203, y204, y205, y206, y207, y208, y209, y210, y211, y212, y213, y214, y215, y216, y217, y218, y219, y220, y221, y222, y223, y224, y225, y226, y227, y228, y229, y230, y231, y232, y233], defers := [] } w := by
  obtain ⟨u0, hu0, _, _, _⟩ := info_parts infoU8
  have hcut := cut_to (P := Tryd.prog) 22 5 .i64 Tryd.underlying22 hu0 (some ⟨R, 0, none⟩) (s.size + 3) (s.size + 3) s.size (by omega) (by omega) (Nat.le_refl _)
  rw [Int.toNat_natCast] at hcut
  clear hu0
  obtain ⟨w0, hw0⟩ : ∃ w0, w0 = w.drew := ⟨_, rfl⟩
  have b0 : Below w.heap.size w w0 := by rw [hw0]; exact (Below.refl _ w).drew
  have t0 := hb.below b0
  have hn0 : w.heap.size ≤ w0.heap.size := b0.size
  obtain ⟨ty0, pos0, aft0, o0⟩ := keep_op0
  obtain ⟨ty1, pos1, aft1, o1⟩ := keep_op1
  obtain ⟨ty2, pos2, aft2, o2⟩ := keep_op2
  obtain ⟨ty3, pos3, aft3, o3⟩ := keep_op3
  obtain ⟨ty4, pos4, aft4, o4⟩ := keep_op4
  obtain ⟨ty5, pos5, aft5, o5⟩ := keep_op5
  obtain ⟨ty6, pos6, aft6, o6⟩ := keep_op6
  obtain ⟨ty7, pos7, aft7, o7⟩ := keep_op7
  obtain ⟨ty8, pos8, aft8, o8⟩ := keep_op8
  obtain ⟨ty9, pos9, aft9, o9⟩ := keep_op9
  obtain ⟨ty10, pos10, aft10, o10⟩ := keep_op10
  refine wp_region_any (ops := keepOps) (by kernel_rfl) ?_
  change wpAny _ _ _ _ 11 #[false, false, false, false, false, false, false, false, false, false, false] _ (World.drew w)
  rw [← hw0]
  clear hw0
  refine wpAny_take (i := 0) (v := .slice (some ⟨R, 0, none⟩) (s.size + 3) (s.size + 3)) o0 (by kernel_rfl) (by kernel_rfl) (by kernel_rfl) (fun _ _ _ h => by rw [hpan] at h; exact h.elim) (Or.inl ⟨by kernel_rfl, fun w => by go_simp⟩) ?_
  simp only [Act.put, List.setIfInBounds_toArray, List.set_cons_zero, List.set_cons_succ]
  refine wpAny_take (i := 1) (v := .int .i64 s.size) o1 (by kernel_rfl) (by kernel_rfl) (by kernel_rfl) (fun _ _ _ h => by rw [hpan] at h; exact h.elim) (Or.inl ⟨by kernel_rfl, fun w => by go_simp⟩) ?_
  simp only [Act.put, List.setIfInBounds_toArray, List.set_cons_zero, List.set_cons_succ]
  refine wpAny_take (i := 2) (v := .slice (some ⟨R, 0, none⟩) s.size (s.size + 3)) o2 (by kernel_rfl) (by kernel_rfl) (by kernel_rfl) (fun _ _ _ h => by rw [hpan] at h; exact h.elim) (Or.inl ⟨by kernel_rfl, fun w => by go_simp⟩) ?_
  simp only [Act.put, List.setIfInBounds_toArray, List.set_cons_zero, List.set_cons_succ]
  refine wpAny_take (i := 4) (v := .slice (some ⟨R, 0, none⟩) (s.size + 3) (s.size + 3)) o4 (by kernel_rfl) (by kernel_rfl) (by kernel_rfl) (fun _ _ _ h => by rw [hpan] at h; exact h.elim) (Or.inl ⟨by kernel_rfl, fun w => by go_simp⟩) ?_
  simp only [Act.put, List.setIfInBounds_toArray, List.set_cons_zero, List.set_cons_succ]
  refine wpAny_take (i := 5) (v := .int .i64 s.size) o5 (by kernel_rfl) (by kernel_rfl) (by kernel_rfl) (fun _ _ _ h => by rw [hpan] at h; exact h.elim) (Or.inl ⟨by kernel_rfl, fun w => by go_simp⟩) ?_
  simp only [Act.put, List.setIfInBounds_toArray, List.set_cons_zero, List.set_cons_succ]
  refine wpAny_take (i := 6) (v := .slice (some ⟨R, 0, none⟩) s.size (s.size + 3)) o6 (by kernel_rfl) (by kernel_rfl) (by kernel_rfl) (fun _ _ _ h => by rw [hpan] at h; exact h.elim) (Or.inl ⟨by kernel_rfl, fun w => by go_simp⟩) ?_
  simp only [Act.put, List.setIfInBounds_toArray, List.set_cons_zero, List.set_cons_succ]
  refine wpAny_ready (rs := [3, 8]) (by kernel_rfl) (by simp) (AllReady.cons o3 (fun K hK => step_wanted (by kernel_rfl) (wp_call 46 rfl rfl (enters_of Tryd.func12 (by kernel_rfl) rfl) (vs := #[.slice (some ⟨R, 0, none⟩) s.size (s.size + 3)]) (by simp [Act.eval]) (All_calls _ _ s w0 t0) (fun w1 h1 => hK _ _ ?_))) (AllReady.cons o8 (fun K hK => step_wanted (by kernel_rfl) (wp_made 5 rfl (v := .pointer (some ⟨w0.heap.size, 0, none⟩)) (w' := w0.alloc (.cells #[.nilFunc] 29)) (by go_simp) (hK _ _ ?_))) AllReady.nil))
  · have q1 : Below w0.heap.size w0 w1 := by rw [h1]; exact (Below.refl _ _).alloc (Nat.le_refl _) _
    have fa1 : w1.cell? ⟨w0.heap.size, 0, none⟩ = some (.string s) := by rw [h1]; simp
    have sz1 : w0.heap.size < w1.heap.size := by rw [h1]; simp
    have b1 := b0.trans (q1.mono b0.size)
    have t1 := t0.below q1
    clear h1
    simp only [Act.put, List.setIfInBounds_toArray, List.set_cons_zero, List.set_cons_succ]
    refine wpAny_ready (rs := [7, 8]) (by kernel_rfl) (by simp) (AllReady.cons o7 (fun K hK => step_wanted (by kernel_rfl) (wp_callx 50 rfl rfl (enters_of Tryd.func26 (by kernel_rfl) rfl) (vs := #[.slice (some ⟨R, 0, none⟩) s.size (s.size + 3)]) (by simp [Act.eval]) (back_calls' _ _ s w1 t1) (fun vb w2 h2 => hK _ _ ?_))) (AllReady.cons o8 (fun K hK => step_wanted (by kernel_rfl) (wp_made 5 rfl (v := .pointer (some ⟨w1.heap.size, 0, none⟩)) (w' := w1.alloc (.cells #[.nilFunc] 29)) (by go_simp) (hK _ _ ?_))) AllReady.nil))
    · obtain ⟨A', c', BB, rfl, fb2, fy2, lb, ⟨g, rfl, lg⟩, q2⟩ := h2
      have sz2 : w1.heap.size ≤ w2.heap.size := q2.size
      have gb2 : BB < w2.heap.size := World.block_lt_of_cell? w2 _ fb2
      have gg := byt_lt fy2
      have b2 := b1.trans (q2.mono b1.size)
      have t2 := t1.below q2
      have fa2 := cell_stays q2 fa1
      simp only [Act.put, List.setIfInBounds_toArray, List.set_cons_zero, List.set_cons_succ]
      refine wpAny_ready (rs := [8]) (by kernel_rfl) (by simp) (AllReady.cons o8 (fun K hK => step_wanted (by kernel_rfl) (wp_made 5 rfl (v := .pointer (some ⟨w2.heap.size, 0, none⟩)) (w' := w2.alloc (.cells #[.nilFunc] 29)) (by go_simp) (hK _ _ ?_))) AllReady.nil)
      obtain ⟨w3, h3⟩ : ∃ w3, w3 = w2.alloc (.cells #[.nilFunc] 29) := ⟨_, rfl⟩
      rw [← h3]
      have q3 : Below w2.heap.size w2 w3 := by rw [h3]; exact (Below.refl _ _).alloc (Nat.le_refl _) _
      have fx3 : Boxed w3 w2.heap.size 29 .nilFunc := by rw [h3]; exact Boxed.new w2 _ _
      have sz3 : w2.heap.size < w3.heap.size := by rw [h3]; simp
      have b3 := b2.trans (q3.mono b2.size)
      have t3 := t2.below q3
      have fa3 := cell_stays q3 fa2
      have fb3 := cell_stays q3 fb2
      have fy3 := fy2.below q3
      clear h3
      simp only [Act.put, List.setIfInBounds_toArray, List.set_cons_zero, List.set_cons_succ]
      have kx3 := fx3.cell
      have zx3 := fx3.frozen
      refine wpAny_ready (rs := [9]) (by kernel_rfl) (by simp) (AllReady.cons o9 (fun K hK => step_wanted (by kernel_rfl) (wp_skip rfl (w' := w3.setCell ⟨w2.heap.size, 0, none⟩ (.func (.func 32) #[] #[.pointer (some ⟨w0.heap.size, 0, none⟩)])) (by go_simp; rw [run_store_at _ _ _ _ _ rfl kx3 zx3]; rfl) (hK _ _ ?_))) AllReady.nil)
      obtain ⟨w4, h4⟩ : ∃ w4, w4 = w3.setCell ⟨w2.heap.size, 0, none⟩ (.func (.func 32) #[] #[.pointer (some ⟨w0.heap.size, 0, none⟩)]) := ⟨_, rfl⟩
      rw [← h4]
      have sz4 : w4.heap.size = w3.heap.size := by rw [h4, World.size_setCell]
      have ne4 : ∀ m, m ≠ w2.heap.size → w4.heap[m]? = w3.heap[m]? := fun m hm => by rw [h4]; exact Below.heap_setCell w3 ⟨w2.heap.size, 0, none⟩ _ m hm
      have fx4 : Boxed w4 w2.heap.size 29 (.func (.func 32) #[] #[.pointer (some ⟨w0.heap.size, 0, none⟩)]) := by rw [h4]; exact fx3.set _
      have b4 : Below w.heap.size w w4 := by rw [h4]; exact b3.setCell (p := ⟨w2.heap.size, 0, none⟩) (show w.heap.size ≤ w2.heap.size from b2.size) _
      have t4 := byt_block t3 (ne4 R (by have := b2.size; omega))
      have fa4 : w4.cell? ⟨w0.heap.size, 0, none⟩ = some (.string s) := (World.cell?_of_block (a := ⟨w0.heap.size, 0, none⟩) (ne4 w0.heap.size (by omega))).trans fa3
      have fb4 : w4.cell? ⟨BB, 0, none⟩ = some (.slice (some ⟨g, 0, none⟩) s.size c') := (World.cell?_of_block (a := ⟨BB, 0, none⟩) (ne4 BB (by omega))).trans fb3
      have fy4 := byt_move fy3 (gg.imp id (fun hg => ne4 g (by omega)))
      refine wpAny_take (i := 10) (v := .func (.func 38) #[] #[.pointer (some ⟨BB, 0, none⟩)]) o10 (by kernel_rfl) (by kernel_rfl) (by kernel_rfl) (fun _ _ _ h => by rw [hpan] at h; exact h.elim) (Or.inl ⟨by kernel_rfl, fun w => by go_simp⟩) ?_
      simp only [Act.put, List.setIfInBounds_toArray, List.set_cons_zero, List.set_cons_succ]
      refine wpAny_done (by kernel_rfl) ?_ _
      exact hQ _ _ _ _ _ _ _ _ w2.heap.size w0.heap.size BB (some ⟨g, 0, none⟩) c' w4 fx4 fa4 fb4 fy4 (by have := b0.size; omega) (by have := b1.size; omega) (by have := b2.size; omega) ⟨g, rfl, by have := b1.size; omega⟩ b4
    · obtain ⟨w2, h2⟩ : ∃ w2, w2 = w1.alloc (.cells #[.nilFunc] 29) := ⟨_, rfl⟩
      rw [← h2]
      have q2 : Below w1.heap.size w1 w2 := by rw [h2]; exact (Below.refl _ _).alloc (Nat.le_refl _) _
      have fx2 : Boxed w2 w1.heap.size 29 .nilFunc := by rw [h2]; exact Boxed.new w1 _ _
      have sz2 : w1.heap.size < w2.heap.size := by rw [h2]; simp
      have b2 := b1.trans (q2.mono b1.size)
      have t2 := t1.below q2
      have fa2 := cell_stays q2 fa1
      clear h2
      simp only [Act.put, List.setIfInBounds_toArray, List.set_cons_zero, List.set_cons_succ]
      refine wpAny_ready (rs := [7]) (by kernel_rfl) (by simp) (AllReady.cons o7 (fun K hK => step_wanted (by kernel_rfl) (wp_callx 50 rfl rfl (enters_of Tryd.func26 (by kernel_rfl) rfl) (vs := #[.slice (some ⟨R, 0, none⟩) s.size (s.size + 3)]) (by simp [Act.eval]) (back_calls' _ _ s w2 t2) (fun vb w3 h3 => hK _ _ ?_))) AllReady.nil)
      obtain ⟨A', c', BB, rfl, fb3, fy3, lb, ⟨g, rfl, lg⟩, q3⟩ := h3
      have sz3 : w2.heap.size ≤ w3.heap.size := q3.size
      have gb3 : BB < w3.heap.size := World.block_lt_of_cell? w3 _ fb3
      have gg := byt_lt fy3
      have b3 := b2.trans (q3.mono b2.size)
      have t3 := t2.below q3
      have fa3 := cell_stays q3 fa2
      have fx3 := boxed_below fx2 q3
      simp only [Act.put, List.setIfInBounds_toArray, List.set_cons_zero, List.set_cons_succ]
      have kx3 := fx3.cell
      have zx3 := fx3.frozen
      refine wpAny_ready (rs := [9]) (by kernel_rfl) (by simp) (AllReady.cons o9 (fun K hK => step_wanted (by kernel_rfl) (wp_skip rfl (w' := w3.setCell ⟨w1.heap.size, 0, none⟩ (.func (.func 32) #[] #[.pointer (some ⟨w0.heap.size, 0, none⟩)])) (by go_simp; rw [run_store_at _ _ _ _ _ rfl kx3 zx3]; rfl) (hK _ _ ?_))) AllReady.nil)
      obtain ⟨w4, h4⟩ : ∃ w4, w4 = w3.setCell ⟨w1.heap.size, 0, none⟩ (.func (.func 32) #[] #[.pointer (some ⟨w0.heap.size, 0, none⟩)]) := ⟨_, rfl⟩
      rw [← h4]
      have sz4 : w4.heap.size = w3.heap.size := by rw [h4, World.size_setCell]
      have ne4 : ∀ m, m ≠ w1.heap.size → w4.heap[m]? = w3.heap[m]? := fun m hm => by rw [h4]; exact Below.heap_setCell w3 ⟨w1.heap.size, 0, none⟩ _ m hm
      have fx4 : Boxed w4 w1.heap.size 29 (.func (.func 32) #[] #[.pointer (some ⟨w0.heap.size, 0, none⟩)]) := by rw [h4]; exact fx3.set _
      have b4 : Below w.heap.size w w4 := by rw [h4]; exact b3.setCell (p := ⟨w1.heap.size, 0, none⟩) (show w.heap.size ≤ w1.heap.size from b1.size) _
      have t4 := byt_block t3 (ne4 R (by have := b1.size; omega))
      have fa4 : w4.cell? ⟨w0.heap.size, 0, none⟩ = some (.string s) := (World.cell?_of_block (a := ⟨w0.heap.size, 0, none⟩) (ne4 w0.heap.size (by omega))).trans fa3
      have fb4 : w4.cell? ⟨BB, 0, none⟩ = some (.slice (some ⟨g, 0, none⟩) s.size c') := (World.cell?_of_block (a := ⟨BB, 0, none⟩) (ne4 BB (by omega))).trans fb3
      have fy4 := byt_move fy3 (gg.imp id (fun hg => ne4 g (by omega)))
      refine wpAny_take (i := 10) (v := .func (.func 38) #[] #[.pointer (some ⟨BB, 0, none⟩)]) o10 (by kernel_rfl) (by kernel_rfl) (by kernel_rfl) (fun _ _ _ h => by rw [hpan] at h; exact h.elim) (Or.inl ⟨by kernel_rfl, fun w => by go_simp⟩) ?_
      simp only [Act.put, List.setIfInBounds_toArray, List.set_cons_zero, List.set_cons_succ]
      refine wpAny_done (by kernel_rfl) ?_ _
      exact hQ _ _ _ _ _ _ _ _ w1.heap.size w0.heap.size BB (some ⟨g, 0, none⟩) c' w4 fx4 fa4 fb4 fy4 (by have := b0.size; omega) (by have := b2.size; omega) (by have := b1.size; omega) ⟨g, rfl, by have := b2.size; omega⟩ b4
  · obtain ⟨w1, h1⟩ : ∃ w1, w1 = w0.alloc (.cells #[.nilFunc] 29) := ⟨_, rfl⟩
    rw [← h1]
    have q1 : Below w0.heap.size w0 w1 := by rw [h1]; exact (Below.refl _ _).alloc (Nat.le_refl _) _
    have fx1 : Boxed w1 w0.heap.size 29 .nilFunc := by rw [h1]; exact Boxed.new w0 _ _
    have sz1 : w0.heap.size < w1.heap.size := by rw [h1]; simp
    have b1 := b0.trans (q1.mono b0.size)
    have t1 := t0.below q1
    clear h1
    simp only [Act.put, List.setIfInBounds_toArray, List.set_cons_zero, List.set_cons_succ]
    refine wpAny_ready (rs := [3]) (by kernel_rfl) (by simp) (AllReady.cons o3 (fun K hK => step_wanted (by kernel_rfl) (wp_call 46 rfl rfl (enters_of Tryd.func12 (by kernel_rfl) rfl) (vs := #[.slice (some ⟨R, 0, none⟩) s.size (s.size + 3)]) (by simp [Act.eval]) (All_calls _ _ s w1 t1) (fun w2 h2 => hK _ _ ?_))) AllReady.nil)
    have q2 : Below w1.heap.size w1 w2 := by rw [h2]; exact (Below.refl _ _).alloc (Nat.le_refl _) _
    have fa2 : w2.cell? ⟨w1.heap.size, 0, none⟩ = some (.string s) := by rw [h2]; simp
    have sz2 : w1.heap.size < w2.heap.size := by rw [h2]; simp
    have b2 := b1.trans (q2.mono b1.size)
    have t2 := t1.below q2
    have fx2 := boxed_below fx1 q2
    clear h2
    simp only [Act.put, List.setIfInBounds_toArray, List.set_cons_zero, List.set_cons_succ]
    refine wpAny_ready (rs := [7]) (by kernel_rfl) (by simp) (AllReady.cons o7 (fun K hK => step_wanted (by kernel_rfl) (wp_callx 50 rfl rfl (enters_of Tryd.func26 (by kernel_rfl) rfl) (vs := #[.slice (some ⟨R, 0, none⟩) s.size (s.size + 3)]) (by simp [Act.eval]) (back_calls' _ _ s w2 t2) (fun vb w3 h3 => hK _ _ ?_))) AllReady.nil)
    obtain ⟨A', c', BB, rfl, fb3, fy3, lb, ⟨g, rfl, lg⟩, q3⟩ := h3
    have sz3 : w2.heap.size ≤ w3.heap.size := q3.size
    have gb3 : BB < w3.heap.size := World.block_lt_of_cell? w3 _ fb3
    have gg := byt_lt fy3
    have b3 := b2.trans (q3.mono b2.size)
    have t3 := t2.below q3
    have fa3 := cell_stays q3 fa2
    have fx3 := boxed_below fx2 q3
    simp only [Act.put, List.setIfInBounds_toArray, List.set_cons_zero, List.set_cons_succ]
    have kx3 := fx3.cell
    have zx3 := fx3.frozen
    refine wpAny_ready (rs := [9]) (by kernel_rfl) (by simp) (AllReady.cons o9 (fun K hK => step_wanted (by kernel_rfl) (wp_skip rfl (w' := w3.setCell ⟨w0.heap.size, 0, none⟩ (.func (.func 32) #[] #[.pointer (some ⟨w1.heap.size, 0, none⟩)])) (by go_simp; rw [run_store_at _ _ _ _ _ rfl kx3 zx3]; rfl) (hK _ _ ?_))) AllReady.nil)
    obtain ⟨w4, h4⟩ : ∃ w4, w4 = w3.setCell ⟨w0.heap.size, 0, none⟩ (.func (.func 32) #[] #[.pointer (some ⟨w1.heap.size, 0, none⟩)]) := ⟨_, rfl⟩
    rw [← h4]
    have sz4 : w4.heap.size = w3.heap.size := by rw [h4, World.size_setCell]
    have ne4 : ∀ m, m ≠ w0.heap.size → w4.heap[m]? = w3.heap[m]? := fun m hm => by rw [h4]; exact Below.heap_setCell w3 ⟨w0.heap.size, 0, none⟩ _ m hm
    have fx4 : Boxed w4 w0.heap.size 29 (.func (.func 32) #[] #[.pointer (some ⟨w1.heap.size, 0, none⟩)]) := by rw [h4]; exact fx3.set _
    have b4 : Below w.heap.size w w4 := by rw [h4]; exact b3.setCell (p := ⟨w0.heap.size, 0, none⟩) (show w.heap.size ≤ w0.heap.size from b0.size) _
    have t4 := byt_block t3 (ne4 R (by have := b0.size; omega))
    have fa4 : w4.cell? ⟨w1.heap.size, 0, none⟩ = some (.string s) := (World.cell?_of_block (a := ⟨w1.heap.size, 0, none⟩) (ne4 w1.heap.size (by omega))).trans fa3
    have fb4 : w4.cell? ⟨BB, 0, none⟩ = some (.slice (some ⟨g, 0, none⟩) s.size c') := (World.cell?_of_block (a := ⟨BB, 0, none⟩) (ne4 BB (by omega))).trans fb3
    have fy4 := byt_move fy3 (gg.imp id (fun hg => ne4 g (by omega)))
    refine wpAny_take (i := 10) (v := .func (.func 38) #[] #[.pointer (some ⟨BB, 0, none⟩)]) o10 (by kernel_rfl) (by kernel_rfl) (by kernel_rfl) (fun _ _ _ h => by rw [hpan] at h; exact h.elim) (Or.inl ⟨by kernel_rfl, fun w => by go_simp⟩) ?_
    simp only [Act.put, List.setIfInBounds_toArray, List.set_cons_zero, List.set_cons_succ]
    refine wpAny_done (by kernel_rfl) ?_ _
    exact hQ _ _ _ _ _ _ _ _ w0.heap.size w1.heap.size BB (some ⟨g, 0, none⟩) c' w4 fx4 fa4 fb4 fy4 (by have := b1.size; omega) (by have := b2.size; omega) (by have := b0.size; omega) ⟨g, rfl, by have := b2.size; omega⟩ b4
end Go.Proofs.YtcnbfpmognijcaaDoor
