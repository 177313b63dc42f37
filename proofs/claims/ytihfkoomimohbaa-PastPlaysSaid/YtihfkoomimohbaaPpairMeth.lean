/- The methods of Past[galley/galleylaw17.Pair] that write: Do, Begin, End, Forget. -/
import Derived.Test.YtihfkoomimohbaaPpairUndo
import Derived.Test.YtihfkoomimohbaaPpairRedo
namespace Go.Proofs.Ytihfkoomimohbaa.Ppair
open Go.RowKit Past17

theorem Past.size {w : World} {base b : Nat} {m : Pst (Int × ByteArray)} (h : Past w base b m) : base ≤ b ∧ b < w.heap.size := by obtain ⟨_, _, _, h⟩ := h; exact ⟨h.hb, h.lt⟩
theorem Past.ok {w : World} {base b : Nat} {m : Pst (Int × ByteArray)} (h : Past w base b m) : Ok m := by obtain ⟨_, _, _, h⟩ := h; exact h.ok
theorem Past.below {w w' : World} {base b : Nat} {m : Pst (Int × ByteArray)} (h : Past w base b m) (hb : Below w.heap.size w w') : Past w' base b m := by
  obtain ⟨vb, va, vo, h⟩ := h
  have M : Moves w w' b [] := (Moves.refl w b _).below hb
  exact ⟨vb, va, vo, h.turn ((hb.block _ h.lt).trans h.blk) (M.row h.rb (fun e => h.nb e.symm) (fun u hu => by cases hu)) (M.row h.ra (fun e => h.na e.symm) (fun u hu => by cases hu)) (fun g e => .inl e) (fun g e => .inl e) (.inl fun g e => e) (Moves.op (M.wide (rows' := [vb, va]) (by simp)) h) h.ok⟩
theorem past_new (s : (Int × ByteArray)) (most : Nat) (w : World) (base : Nat) (hb : base ≤ w.heap.size) (hm : most ≤ 4096) : Past (w.alloc (.cells #[.int .i64 s.1, .string s.2, .int .i64 most, .slice none 0 0, .slice none 0 0, .pointer none] 106)) base w.heap.size (newP s most) :=
  ⟨_, _, _, hb, World.alloc_heap_new w _, World.ownsRow_nil _ _ _ _, World.ownsRow_nil _ _ _ _, (fun _ h => by cases h), rfl, ok_new s hm⟩

set_option maxRecDepth 100000 in
set_option maxHeartbeats 1000000 in
theorem do_calls (w : World) (base b : Nat) (m : Pst (Int × ByteArray)) (s : (Int × ByteArray)) (wd : ByteArray) (h : Past w base b m) :
    Calls Try.prog 49 #[.pointer (some ⟨b, 0, none⟩), .agg #[.int .i64 s.1, .string s.2], .string wd] w fun e w' => e = .returned (.int .i64 0) ∧ Past w' base b (doP m s wd) ∧ Spares w w' ∧ Below base w w' := by
  obtain ⟨vb, va, vo, h⟩ := h
  have hlt := h.lt
  have b0 := h.blk
  have cA := of_cells b0 4 va rfl
  have zA := no_ice b0 4
  have m2ok : Ok { m with again := ([] : List ((Int × ByteArray) × ByteArray)) } := ⟨h.ok.mx, by have := h.ok.len; simp; omega, fun _ _ _ => rfl⟩
  obtain ⟨W1, hW1⟩ : ∃ W1, W1 = w.setCell ⟨b, 4, none⟩ (.slice none 0 0) := ⟨_, rfl⟩
  have M1 : Moves w W1 b [] := by rw [hW1]; exact (Moves.refl w b _).set _
  have P1 : PAt W1 base b { m with again := ([] : List ((Int × ByteArray) × ByteArray)) } vb (.slice none 0 0) vo := by
    refine h.turn (by rw [hW1]; exact set_row b0) (M1.row h.rb (fun e => h.nb e.symm) (fun u hu => by cases hu)) (World.ownsRow_nil _ _ _ _) (fun g e => .inl e) (fun g e => by cases e) (.inl fun g e => by cases e) (show OpAt W1 base m.opn vo from Moves.op (M1.wide (rows' := [vb, va]) (by simp)) h) m2ok
  have S1 := Moves.spares (M1.wide (rows' := [vb, va]) (by simp)) h
  have L1 := Moves.belowB (M1.wide (rows' := [vb, va]) (by simp)) h
  obtain ⟨WA, hWA⟩ : ∃ WA, WA = W1.alloc (.cells #[.int .i64 s.1, .string s.2] 32) := ⟨_, rfl⟩
  have hz1 : W1.heap.size = w.heap.size := by rw [hW1, World.size_setCell]
  have MA : Moves w WA b [] := by rw [hWA]; exact M1.alloc _
  have xA : WA.heap[w.heap.size]? = some (.cells #[.int .i64 s.1, .string s.2] 32 (0, 0)) := by rw [hWA, ← hz1]; exact World.alloc_heap_new W1 _
  have PA : PAt WA base b { m with again := ([] : List ((Int × ByteArray) × ByteArray)) } vb (.slice none 0 0) vo := by
    refine h.turn ((by rw [hWA]; exact (Below.heap_alloc W1 _ b (by omega)).trans (by rw [hW1]; exact set_row b0))) (MA.row h.rb (fun e => h.nb e.symm) (fun u hu => by cases hu)) (World.ownsRow_nil _ _ _ _) (fun g e => .inl e) (fun g e => by cases e) (.inl fun g e => by cases e) (show OpAt WA base m.opn vo from Moves.op (MA.wide (rows' := [vb, va]) (by simp)) h) m2ok
  have SA := Lib.hid (Moves.spares (MA.wide (rows' := [vb, va]) (by simp)) h)
  have LA := Lib.hid (Moves.belowB (MA.wide (rows' := [vb, va]) (by simp)) h)
  have hPA := Lib.hid PA
  have HWA := Lib.hid hWA
  have XA := Lib.hid xA
  have cO := of_cells b0 5 vo rfl
  have cS := of_cells b0 0 (.int .i64 m.st.1) rfl
  have cS2 := of_cells b0 1 (.string m.st.2) rfl
  have hop := h.op
  have hS1 := Lib.hid S1
  have hL1 := Lib.hid L1
  have hP1 := Lib.hid P1
  have HW1 := Lib.hid hW1
  have H := Lib.hid h
  clear h b0 P1 S1 L1 m2ok hW1 hWA PA xA
  go_enter Try.func49, Try.ntmps49
  cases ho : m.opn with
  | none =>
    have hvo : vo = .pointer none := by
      have : OpAt w base m.opn vo := hop
      rw [ho] at this; exact this
    subst hvo
    clear hop
    clear M1 MA
    go_wp2_with fail
    rw [← HW1.out, ← HWA.out]
    refine (keep_calls WA base b { m with again := ([] : List ((Int × ByteArray) × ByteArray)) } vb (.slice none 0 0) (.pointer none) m.st wd hPA.out rfl).mono ?_
    rintro e w2 ⟨⟨v, rfl⟩, ⟨vb', P2⟩, S2, L2⟩
    have c2 := of_cells P2.blk 0 _ rfl
    have z2 := no_ice P2.blk 0
    have c22 := of_cells P2.blk 1 _ rfl
    have z22 := no_ice P2.blk 1
    have x2 := S2 _ _ _ _ XA.out (by decide) (by decide) (by decide)
    have q0 := of_cells x2 0 _ rfl
    have q1 := of_cells x2 1 _ rfl
    have hS2 := Lib.hid (SA.out.trans S2)
    have hL2 := Lib.hid (LA.out.trans L2)
    have hP2 := Lib.hid P2
    clear P2 S2 L2 x2
    go_wp2_with fail
    go_ret
    have M3 := ((Moves.refl w2 b [vb', .slice none 0 0]).set (i := 0) (.int .i64 s.1)).set (i := 1) (.string s.2)
    refine ⟨rfl, ⟨vb', _, _, hP2.out.turn (m' := doP m s wd) (by rw [show doP m s wd = { keepP { m with again := ([] : List ((Int × ByteArray) × ByteArray)) } (m.st, wd) with st := s } by simp [doP, ho]]; exact set_row (set_row hP2.out.blk)) ?_ ?_ (fun g e => .inl e) (fun g e => by cases e) (.inl fun g e => by cases e) ?_ (ok_do H.out.ok s wd)⟩, hS2.out.trans (Moves.spares M3 hP2.out), hL2.out.trans (Moves.belowB M3 hP2.out)⟩
    · have := ownsRow_setCell_other (ownsRow_setCell_other hP2.out.rb (a := ⟨b, 0, none⟩) (fun e => hP2.out.nb e.symm) (.int .i64 s.1)) (a := ⟨b, 1, none⟩) (fun e => hP2.out.nb e.symm) (.string s.2) 
      simpa [doP, ho] using this
    · simp [doP, ho, keepP]; exact World.ownsRow_nil _ _ _ _
    · simp [doP, ho, keepP]; exact rfl
  | some x =>
    obtain ⟨s0, wd0, did0⟩ := x
    obtain ⟨o, rfl, hob, hoc⟩ : ∃ o, vo = .pointer (some ⟨o, 0, none⟩) ∧ base ≤ o ∧ w.heap[o]? = some (.cells #[.int .i64 s0.1, .string s0.2, .string wd0, .bool did0] 116 (0, 0)) := by
      have : OpAt w base m.opn vo := hop
      rw [ho] at this; exact this
    have hne : o ≠ b := fun e => by subst e; have := hoc.symm.trans H.out.blk; simp at this
    have hne' : ¬ b = o := fun e => hne e.symm
    have ct := of_cells hoc 3 (.bool did0) rfl
    have zt := no_ice hoc 3
    have zB := no_ice H.out.blk 0
    have zB2 := no_ice H.out.blk 1
    obtain ⟨W2, hW2⟩ : ∃ W2, W2 = W1.setCell ⟨o, 3, none⟩ (.bool true) := ⟨_, rfl⟩
    obtain ⟨W3, hW3⟩ : ∃ W3, W3 = (W2.setCell ⟨b, 0, none⟩ (.int .i64 s.1)).setCell ⟨b, 1, none⟩ (.string s.2) := ⟨_, rfl⟩
    have o1 : W1.heap[o]? = some (.cells #[.int .i64 s0.1, .string s0.2, .string wd0, .bool did0] 116 (0, 0)) := (M1.same o (Array.getElem?_eq_some_iff.1 hoc).1 hne (fun u hu => by cases hu)).trans hoc
    have o2 : W2.heap[o]? = some (.cells #[.int .i64 s0.1, .string s0.2, .string wd0, .bool true] 116 (0, 0)) := by rw [hW2]; exact set_row o1
    have o3 : W3.heap[o]? = some (.cells #[.int .i64 s0.1, .string s0.2, .string wd0, .bool true] 116 (0, 0)) := by rw [hW3]; exact (Below.heap_setCell _ ⟨b, 1, none⟩ _ o hne).trans ((Below.heap_setCell W2 ⟨b, 0, none⟩ _ o hne).trans o2)
    have b2 : W2.heap[b]? = some (.cells #[.int .i64 m.st.1, .string m.st.2, .int .i64 m.most, vb, .slice none 0 0, .pointer (some ⟨o, 0, none⟩)] 106 (0, 0)) := by rw [hW2]; exact (Below.heap_setCell W1 ⟨o, 3, none⟩ _ b (show b ≠ o from fun e => hne e.symm)).trans hP1.out.blk
    have b3 : W3.heap[b]? = some (.cells #[.int .i64 s.1, .string s.2, .int .i64 m.most, vb, .slice none 0 0, .pointer (some ⟨o, 0, none⟩)] 106 (0, 0)) := by rw [hW3]; exact set_row (set_row b2)
    have G2 : W1.grownBy W2 (some o) := by rw [hW2]; exact ⟨rfl, rfl, rfl, by simp, fun k _ hk => Below.heap_setCell _ _ _ k (fun e => hk (by rw [e]))⟩
    have vbo : vb.ownBlock ≠ some o := fun e => by obtain ⟨_, cs, hc⟩ := ownsRow_type hP1.out.rb o e; rw [o1] at hc; cases hc
    have rb3 : W3.ownsRow base 114 3 vb m.back.length (m.back.flatMap turnC) := by
      rw [hW3]; exact ownsRow_setCell_other (ownsRow_setCell_other (by rw [hW2]; exact ownsRow_setCell_other hP1.out.rb vbo _) (fun e => hP1.out.nb e.symm) _) (fun e => hP1.out.nb e.symm) _
    have S3 : Spares W1 W3 := by
      refine (Spares.of_grown G2 (fun g e => by cases e; exact ⟨_, _, _, o1, .inr (.inr rfl)⟩)).trans ?_
      rw [hW3]; exact (Spares.of_grown (grown_cell W2 b 0 _) (fun g e => by cases e; exact ⟨_, _, _, b2, .inl rfl⟩)).trans (Spares.of_grown (grown_cell _ b 1 _) (fun g e => by cases e; exact ⟨_, _, _, set_row b2, .inl rfl⟩))
    have L3 : Below base W1 W3 := by
      rw [hW3, hW2]
      exact ((((Below.refl base W1).setCell (p := ⟨o, 3, none⟩) hob _).setCell (p := ⟨b, 0, none⟩) H.out.hb _).setCell (p := ⟨b, 1, none⟩) H.out.hb _)
    have hok := ok_do H.out.ok s wd
    have HZ3 : Hid (W3.heap.size = w.heap.size) := by rw [hW3, World.size_setCell, World.size_setCell, hW2, World.size_setCell]; exact hz1
    have HW2 := Lib.hid hW2
    have HW3 := Lib.hid hW3
    have B3 := Lib.hid b3
    have R3 := Lib.hid rb3
    have O3 := Lib.hid o3
    have SS := Lib.hid (hS1.out.trans S3)
    have LL := Lib.hid (hL1.out.trans L3)
    have HV := Lib.hid vbo
    have hol := (Array.getElem?_eq_some_iff.1 hoc).1
    have hbs : ¬ b = w.heap.size := by omega
    have hos : ¬ o = w.heap.size := by omega
    have hbs' : ¬ w.heap.size = b := by omega
    have hos' : ¬ w.heap.size = o := by omega
    clear hW2 hW3 b2 b3 o1 o2 o3 rb3 S3 L3 G2 M1 MA hop vbo hoc
    go_wp2_with fail
    go_ret
    rw [← HW1.out, ← HW2.out, ← HW3.out]
    have hbW : b < W3.heap.size := by rw [HZ3.out]; exact hlt
    have hoW : o < W3.heap.size := by rw [HZ3.out]; exact hol
    have hBW : base ≤ W3.heap.size := Nat.le_trans H.out.hb (Nat.le_of_lt hbW)
    have B4 := (Below.heap_alloc W3 (.cells #[.int .i64 s.1, .string s.2] 32) b hbW).trans B3.out
    have O4 := (Below.heap_alloc W3 (.cells #[.int .i64 s.1, .string s.2] 32) o hoW).trans O3.out
    have R4 := R3.out.alloc (.cells #[.int .i64 s.1, .string s.2] 32)
    have LA2 : Below base W3 (W3.alloc (.cells #[.int .i64 s.1, .string s.2] 32)) := (Below.refl base W3).alloc hBW _
    have LS2 : Below W3.heap.size W3 (W3.alloc (.cells #[.int .i64 s.1, .string s.2] 32)) := (Below.refl _ W3).alloc (Nat.le_refl _) _
    refine ⟨rfl, ⟨vb, .slice none 0 0, .pointer (some ⟨o, 0, none⟩), H.out.turn (m' := doP m s wd) (by simpa [doP, ho] using B4) (by simpa [doP, ho] using R4) (by simp [doP, ho]; exact World.ownsRow_nil _ _ _ _) (fun g e => .inl e) (fun g e => by cases e) (.inl fun g e => by cases e) (by simp [doP, ho]; exact ⟨o, rfl, hob, O4⟩) hok⟩, SS.out.trans (Spares.of_below LS2), LL.out.trans LA2⟩

set_option maxRecDepth 100000 in
set_option maxHeartbeats 1000000 in
theorem begin_calls (w : World) (base b : Nat) (m : Pst (Int × ByteArray)) (wd : ByteArray) (h : Past w base b m) :
    Calls Try.prog 52 #[.pointer (some ⟨b, 0, none⟩), .string wd] w fun e w' => e = .returned (.int .i64 (closedN m)) ∧ Past w' base b (beginP m wd) ∧ Spares w w' ∧ Below base w w' := by
  obtain ⟨vb, va, vo, h⟩ := h
  have hlt := h.lt
  have cO := of_cells h.blk 5 vo rfl
  have zO := no_ice h.blk 5
  have cS := of_cells h.blk 0 (.int .i64 m.st.1) rfl
  have cS2 := of_cells h.blk 1 (.string m.st.2) rfl
  have hop := opAt_cases h.op
  have H := Lib.hid h
  clear h
  go_enter Try.func52, Try.ntmps52
  go_wp2_with fail
  refine (closed_calls b vo m.opn.isSome w cO hop).mono ?_
  rintro e w' ⟨rfl, rfl⟩
  cases ho : m.opn with
  | some x =>
    go_wp2_with fail
    go_ret
    exact ⟨by simp [closedN, ho], ⟨vb, va, vo, by simpa [beginP, ho] using H.out⟩, Spares.refl _, Below.refl _ _⟩
  | none =>
    obtain ⟨W1, hW1⟩ : ∃ W1, W1 = w'.setCell ⟨b, 5, none⟩ (.pointer (some ⟨w'.heap.size, 0, none⟩)) := ⟨_, rfl⟩
    obtain ⟨W2, hW2⟩ : ∃ W2, W2 = W1.alloc (.cells #[.int .i64 m.st.1, .string m.st.2, .string wd, .bool false] 116) := ⟨_, rfl⟩
    have M2 : Moves w' W2 b [] := by rw [hW2, hW1]; exact ((Moves.refl w' b _).set _).alloc _
    have hz1 : W1.heap.size = w'.heap.size := by rw [hW1, World.size_setCell]
    have b2 : W2.heap[b]? = some (.cells #[.int .i64 m.st.1, .string m.st.2, .int .i64 m.most, vb, va, .pointer (some ⟨w'.heap.size, 0, none⟩)] 106 (0, 0)) := by rw [hW2]; exact (Below.heap_alloc W1 _ b (by omega)).trans (by rw [hW1]; exact set_row H.out.blk)
    have o2 : W2.heap[w'.heap.size]? = some (.cells #[.int .i64 m.st.1, .string m.st.2, .string wd, .bool false] 116 (0, 0)) := by rw [hW2, ← hz1]; exact World.alloc_heap_new W1 _
    have HM := Lib.hid M2
    have HB := Lib.hid b2
    have HO := Lib.hid o2
    have HW1 := Lib.hid hW1
    have HW2 := Lib.hid hW2
    have hok := ok_begin H.out.ok wd
    clear M2 b2 o2 hW1 hW2
    go_wp2_with fail
    go_ret
    rw [← HW1.out, ← HW2.out]
    refine ⟨by simp [closedN, ho], ⟨vb, va, .pointer (some ⟨w'.heap.size, 0, none⟩), H.out.turn (m' := beginP m wd) (by simpa [beginP, ho] using HB.out) (by simpa [beginP, ho] using HM.out.row H.out.rb (fun e => H.out.nb e.symm) (fun u hu => by cases hu)) (by simpa [beginP, ho] using HM.out.row H.out.ra (fun e => H.out.na e.symm) (fun u hu => by cases hu)) (fun g e => .inl e) (fun g e => .inl e) (.inl fun g e => e) (by simp [beginP, ho]; exact ⟨_, rfl, by have := H.out.hb; omega, HO.out⟩) hok⟩, (HM.out.wide (rows' := [vb, va]) (by simp)).spares H.out, (HM.out.wide (rows' := [vb, va]) (by simp)).belowB H.out⟩

set_option maxRecDepth 100000 in
set_option maxHeartbeats 1000000 in
theorem forget_calls (w : World) (base b : Nat) (m : Pst (Int × ByteArray)) (h : Past w base b m) :
    Calls Try.prog 54 #[.pointer (some ⟨b, 0, none⟩)] w fun e w' => e = .returned (.int .i64 (closedN m)) ∧ Past w' base b (forgetP m) ∧ Spares w w' ∧ Below base w w' := by
  obtain ⟨vb, va, vo, h⟩ := h
  have hlt := h.lt
  have cO := of_cells h.blk 5 vo rfl
  have cB := of_cells h.blk 3 vb rfl
  have zB := no_ice h.blk 3
  have cA := of_cells h.blk 4 va rfl
  have zA := no_ice h.blk 4
  have hop := opAt_cases h.op
  have H := Lib.hid h
  clear h
  go_enter Try.func54, Try.ntmps54
  go_wp2_with fail
  refine (closed_calls b vo m.opn.isSome w cO hop).mono ?_
  rintro e w' ⟨rfl, rfl⟩
  cases ho : m.opn with
  | some x =>
    go_wp2_with fail
    go_ret
    exact ⟨by simp [closedN, ho], ⟨vb, va, vo, by simpa [forgetP, ho] using H.out⟩, Spares.refl _, Below.refl _ _⟩
  | none =>
    obtain ⟨W1, hW1⟩ : ∃ W1, W1 = w'.setCell ⟨b, 3, none⟩ (.slice none 0 0) := ⟨_, rfl⟩
    obtain ⟨W2, hW2⟩ : ∃ W2, W2 = W1.setCell ⟨b, 4, none⟩ (.slice none 0 0) := ⟨_, rfl⟩
    have M2 : Moves w' W2 b [] := by rw [hW2, hW1]; exact ((Moves.refl w' b _).set _).set _
    have b2 : W2.heap[b]? = some (.cells #[.int .i64 m.st.1, .string m.st.2, .int .i64 m.most, .slice none 0 0, .slice none 0 0, vo] 106 (0, 0)) := by rw [hW2, hW1]; exact set_row (set_row H.out.blk)
    have HM := Lib.hid M2
    have HB := Lib.hid b2
    have HW1 := Lib.hid hW1
    have HW2 := Lib.hid hW2
    have hok := ok_forget H.out.ok
    clear M2 b2 hW1 hW2
    go_wp2_with fail
    go_ret
    rw [← HW1.out, ← HW2.out]
    refine ⟨by simp [closedN, ho], ⟨.slice none 0 0, .slice none 0 0, vo, H.out.turn (m' := forgetP m) (by simpa [forgetP, ho] using HB.out) (by simp [forgetP, ho]; exact World.ownsRow_nil _ _ _ _) (by simp [forgetP, ho]; exact World.ownsRow_nil _ _ _ _) (fun g e => by cases e) (fun g e => by cases e) (.inl fun g e => by cases e) (by simp [forgetP, ho]; have := Moves.op (HM.out.wide (rows' := [vb, va]) (by simp)) H.out; rw [ho] at this; exact this) hok⟩, (HM.out.wide (rows' := [vb, va]) (by simp)).spares H.out, (HM.out.wide (rows' := [vb, va]) (by simp)).belowB H.out⟩

set_option maxRecDepth 100000 in
set_option maxHeartbeats 1000000 in
theorem end_calls (w : World) (base b : Nat) (m : Pst (Int × ByteArray)) (h : Past w base b m) :
    Calls Try.prog 53 #[.pointer (some ⟨b, 0, none⟩)] w fun e w' => e = .returned (.int .i64 (endN m)) ∧ Past w' base b (endP m) ∧ Spares w w' ∧ Below base w w' := by
  obtain ⟨vb, va, vo, h⟩ := h
  have hlt := h.lt
  have cO := of_cells h.blk 5 vo rfl
  have zO := no_ice h.blk 5
  have hop := h.op
  have H := Lib.hid h
  clear h
  go_enter Try.func53, Try.ntmps53
  cases ho : m.opn with
  | none =>
    obtain rfl : vo = .pointer none := by rw [ho] at hop; exact hop
    clear hop
    go_wp2_with fail
    go_ret
    exact ⟨by simp [endN, ho], ⟨vb, va, .pointer none, by simpa [endP, ho] using H.out⟩, Spares.refl _, Below.refl _ _⟩
  | some x =>
    obtain ⟨s0, wd0, did0⟩ := x
    obtain ⟨o, rfl, hob, hoc⟩ : ∃ o, vo = .pointer (some ⟨o, 0, none⟩) ∧ base ≤ o ∧ w.heap[o]? = some (.cells #[.int .i64 s0.1, .string s0.2, .string wd0, .bool did0] 116 (0, 0)) := by
      rw [ho] at hop; exact hop
    have hne : o ≠ b := fun e => by subst e; have := hoc.symm.trans H.out.blk; simp at this
    have hne' : ¬ b = o := fun e => hne e.symm
    have ct := of_cells hoc 3 (.bool did0) rfl
    have g0 := of_cells hoc 0 (.int .i64 s0.1) rfl
    have g1 := of_cells hoc 1 (.string s0.2) rfl
    have gw := of_cells hoc 2 (.string wd0) rfl
    obtain ⟨W1, hW1⟩ : ∃ W1, W1 = w.setCell ⟨b, 5, none⟩ (.pointer none) := ⟨_, rfl⟩
    have M1 : Moves w W1 b [] := by rw [hW1]; exact (Moves.refl w b _).set _
    have ok1 : Ok { m with opn := none } := ⟨H.out.ok.mx, H.out.ok.len, fun _ _ e => by cases e⟩
    have P1 : PAt W1 base b { m with opn := none } vb va (.pointer none) := H.out.turn (m' := { m with opn := none }) (by rw [hW1]; exact set_row H.out.blk) (M1.row H.out.rb (fun e => H.out.nb e.symm) (fun u hu => by cases hu)) (M1.row H.out.ra (fun e => H.out.na e.symm) (fun u hu => by cases hu)) (fun g e => .inl e) (fun g e => .inl e) (.inl fun g e => e) rfl ok1
    have S1 := Lib.hid ((M1.wide (rows' := [vb, va]) (by simp)).spares H.out)
    have L1 := Lib.hid ((M1.wide (rows' := [vb, va]) (by simp)).belowB H.out)
    have HP1 := Lib.hid P1
    have HW1 := Lib.hid hW1
    clear hoc hop M1 P1 hW1
    cases did0 with
    | false =>
      go_wp2_with fail
      go_ret
      rw [← HW1.out]
      exact ⟨by simp [endN, ho], ⟨vb, va, .pointer none, by simpa [endP, ho] using HP1.out⟩, S1.out, L1.out⟩
    | true =>
      have hag := H.out.ok.did s0 wd0 ho
      go_wp2_with fail
      rw [← HW1.out]
      refine (keep_calls W1 base b { m with opn := none } vb va (.pointer none) s0 wd0 HP1.out hag).mono ?_
      rintro e w2 ⟨⟨v, rfl⟩, ⟨vb', P2⟩, S2, L2⟩
      have HP2 := Lib.hid P2
      have HS2 := Lib.hid (S1.out.trans S2)
      have HL2 := Lib.hid (L1.out.trans L2)
      clear P2 S2 L2
      go_wp2_with fail
      go_ret
      exact ⟨by simp [endN, ho], ⟨vb', va, .pointer none, by simpa [endP, ho] using HP2.out⟩, HS2.out, HL2.out⟩
end Go.Proofs.Ytihfkoomimohbaa.Ppair
