/- The methods of Past[string] that write: Do, Begin, End, Forget. -/
import Derived.Test.YtihfkoomimohbaaPstringUndo
namespace Go.Proofs.Ytihfkoomimohbaa.Pstring
open Go.RowKit Past17

theorem Past.size {w : World} {base b : Nat} {m : Pst ByteArray} (h : Past w base b m) : base ≤ b ∧ b < w.heap.size := by obtain ⟨_, _, _, h⟩ := h; exact ⟨h.hb, h.lt⟩
theorem Past.ok {w : World} {base b : Nat} {m : Pst ByteArray} (h : Past w base b m) : Ok m := by obtain ⟨_, _, _, h⟩ := h; exact h.ok
theorem Past.below {w w' : World} {base b : Nat} {m : Pst ByteArray} (h : Past w base b m) (hb : Below w.heap.size w w') : Past w' base b m := by
  obtain ⟨vb, va, vo, h⟩ := h
  have M : Moves w w' b [] := (Moves.refl w b _).below hb
  exact ⟨vb, va, vo, h.turn ((hb.block _ h.lt).trans h.blk) (M.row h.rb (fun e => h.nb e.symm) (fun u hu => by cases hu)) (M.row h.ra (fun e => h.na e.symm) (fun u hu => by cases hu)) (fun g e => .inl e) (fun g e => .inl e) (.inl fun g e => e) (Moves.op (M.wide (rows' := [vb, va]) (by simp)) h) h.ok⟩
theorem past_new (s : ByteArray) (most : Nat) (w : World) (base : Nat) (hb : base ≤ w.heap.size) (hm : most ≤ 4096) : Past (w.alloc (.cells #[.string s, .int .i64 most, .slice none 0 0, .slice none 0 0, .pointer none] 88)) base w.heap.size (newP s most) :=
  ⟨_, _, _, hb, World.alloc_heap_new w _, World.ownsRow_nil _ _ _ _, World.ownsRow_nil _ _ _ _, (fun _ h => by cases h), rfl, ok_new s hm⟩

set_option maxRecDepth 100000 in
set_option maxHeartbeats 1000000 in
theorem do_calls (w : World) (base b : Nat) (m : Pst ByteArray) (s : ByteArray) (wd : ByteArray) (h : Past w base b m) :
    Calls Try.prog 26 #[.pointer (some ⟨b, 0, none⟩), .string s, .string wd] w fun e w' => e = .returned (.int .i64 0) ∧ Past w' base b (doP m s wd) ∧ Spares w w' ∧ Below base w w' := by
  obtain ⟨vb, va, vo, h⟩ := h
  have hlt := h.lt
  have b0 := h.blk
  have cA := of_cells b0 3 va rfl
  have zA := no_ice b0 3
  have m2ok : Ok { m with again := ([] : List (ByteArray × ByteArray)) } := ⟨h.ok.mx, by have := h.ok.len; simp; omega, fun _ _ _ => rfl⟩
  obtain ⟨W1, hW1⟩ : ∃ W1, W1 = w.setCell ⟨b, 3, none⟩ (.slice none 0 0) := ⟨_, rfl⟩
  have M1 : Moves w W1 b [] := by rw [hW1]; exact (Moves.refl w b _).set _
  have P1 : PAt W1 base b { m with again := ([] : List (ByteArray × ByteArray)) } vb (.slice none 0 0) vo := by
    refine h.turn (by rw [hW1]; exact set_row b0) (M1.row h.rb (fun e => h.nb e.symm) (fun u hu => by cases hu)) (World.ownsRow_nil _ _ _ _) (fun g e => .inl e) (fun g e => by cases e) (.inl fun g e => by cases e) (show OpAt W1 base m.opn vo from Moves.op (M1.wide (rows' := [vb, va]) (by simp)) h) m2ok
  have S1 := Moves.spares (M1.wide (rows' := [vb, va]) (by simp)) h
  have L1 := Moves.belowB (M1.wide (rows' := [vb, va]) (by simp)) h
  have cO := of_cells b0 4 vo rfl
  have cS := of_cells b0 0 (.string m.st) rfl
  
  have hop := h.op
  have hS1 := Lib.hid S1
  have hL1 := Lib.hid L1
  have hP1 := Lib.hid P1
  have HW1 := Lib.hid hW1
  have H := Lib.hid h
  clear h b0 P1 S1 L1 m2ok hW1
  go_enter Try.func26, Try.ntmps26
  cases ho : m.opn with
  | none =>
    have hvo : vo = .pointer none := by
      have : OpAt w base m.opn vo := hop
      rw [ho] at this; exact this
    subst hvo
    clear hop
    clear M1
    go_wp2_with fail
    rw [← HW1.out]
    refine (keep_calls W1 base b { m with again := ([] : List (ByteArray × ByteArray)) } vb (.slice none 0 0) (.pointer none) m.st wd hP1.out rfl).mono ?_
    rintro e w2 ⟨⟨v, rfl⟩, ⟨vb', P2⟩, S2, L2⟩
    have c2 := of_cells P2.blk 0 _ rfl
    have z2 := no_ice P2.blk 0
    
    have hS2 := Lib.hid (hS1.out.trans S2)
    have hL2 := Lib.hid (hL1.out.trans L2)
    have hP2 := Lib.hid P2
    clear P2 S2 L2
    go_wp2_with fail
    go_ret
    have M3 := (Moves.refl w2 b [vb', .slice none 0 0]).set (i := 0) (.string s)
    refine ⟨rfl, ⟨vb', _, _, hP2.out.turn (m' := doP m s wd) (by rw [show doP m s wd = { keepP { m with again := ([] : List (ByteArray × ByteArray)) } (m.st, wd) with st := s } by simp [doP, ho]]; exact set_row hP2.out.blk) ?_ ?_ (fun g e => .inl e) (fun g e => by cases e) (.inl fun g e => by cases e) ?_ (ok_do H.out.ok s wd)⟩, hS2.out.trans (Moves.spares M3 hP2.out), hL2.out.trans (Moves.belowB M3 hP2.out)⟩
    · have := ownsRow_setCell_other hP2.out.rb (a := ⟨b, 0, none⟩) (fun e => hP2.out.nb e.symm) (.string s) 
      simpa [doP, ho] using this
    · simp [doP, ho, keepP]; exact World.ownsRow_nil _ _ _ _
    · simp [doP, ho, keepP]; exact rfl
  | some x =>
    obtain ⟨s0, wd0, did0⟩ := x
    obtain ⟨o, rfl, hob, hoc⟩ : ∃ o, vo = .pointer (some ⟨o, 0, none⟩) ∧ base ≤ o ∧ w.heap[o]? = some (.cells #[.string s0, .string wd0, .bool did0] 92 (0, 0)) := by
      have : OpAt w base m.opn vo := hop
      rw [ho] at this; exact this
    have hne : o ≠ b := fun e => by subst e; have := hoc.symm.trans H.out.blk; cases this
    have hne' : ¬ b = o := fun e => hne e.symm
    have ct := of_cells hoc 2 (.bool did0) rfl
    have zt := no_ice hoc 2
    have zB := no_ice H.out.blk 0
    
    obtain ⟨W2, hW2⟩ : ∃ W2, W2 = W1.setCell ⟨o, 2, none⟩ (.bool true) := ⟨_, rfl⟩
    obtain ⟨W3, hW3⟩ : ∃ W3, W3 = W2.setCell ⟨b, 0, none⟩ (.string s) := ⟨_, rfl⟩
    have o1 : W1.heap[o]? = some (.cells #[.string s0, .string wd0, .bool did0] 92 (0, 0)) := (M1.same o (Array.getElem?_eq_some_iff.1 hoc).1 hne (fun u hu => by cases hu)).trans hoc
    have o2 : W2.heap[o]? = some (.cells #[.string s0, .string wd0, .bool true] 92 (0, 0)) := by rw [hW2]; exact set_row o1
    have o3 : W3.heap[o]? = some (.cells #[.string s0, .string wd0, .bool true] 92 (0, 0)) := by rw [hW3]; exact (Below.heap_setCell W2 ⟨b, 0, none⟩ _ o hne).trans o2
    have b2 : W2.heap[b]? = some (.cells #[.string m.st, .int .i64 m.most, vb, .slice none 0 0, .pointer (some ⟨o, 0, none⟩)] 88 (0, 0)) := by rw [hW2]; exact (Below.heap_setCell W1 ⟨o, 2, none⟩ _ b (show b ≠ o from fun e => hne e.symm)).trans hP1.out.blk
    have b3 : W3.heap[b]? = some (.cells #[.string s, .int .i64 m.most, vb, .slice none 0 0, .pointer (some ⟨o, 0, none⟩)] 88 (0, 0)) := by rw [hW3]; exact set_row b2
    have G2 : W1.grownBy W2 (some o) := by rw [hW2]; exact ⟨rfl, rfl, rfl, by simp, fun k _ hk => Below.heap_setCell _ _ _ k (fun e => hk (by rw [e]))⟩
    have vbo : vb.ownBlock ≠ some o := fun e => by obtain ⟨_, cs, hc⟩ := ownsRow_type hP1.out.rb o e; rw [o1] at hc; cases hc
    have rb3 : W3.ownsRow base 90 2 vb m.back.length (m.back.flatMap turnC) := by
      rw [hW3]; exact ownsRow_setCell_other (by rw [hW2]; exact ownsRow_setCell_other hP1.out.rb vbo _) (fun e => hP1.out.nb e.symm) _
    have S3 : Spares W1 W3 := by
      refine (Spares.of_grown G2 (fun g e => by cases e; exact ⟨_, _, _, o1, .inr (.inr rfl)⟩)).trans ?_
      rw [hW3]; exact Spares.of_grown (grownBy_setCell' W2 b _) (fun g e => by cases e; exact ⟨_, _, _, b2, .inl rfl⟩)
    have L3 : Below base W1 W3 := by
      rw [hW3, hW2]
      exact (((Below.refl base W1).setCell (p := ⟨o, 2, none⟩) hob _).setCell (p := ⟨b, 0, none⟩) H.out.hb _)
    have hok := ok_do H.out.ok s wd
    have HW2 := Lib.hid hW2
    have HW3 := Lib.hid hW3
    have B3 := Lib.hid b3
    have R3 := Lib.hid rb3
    have O3 := Lib.hid o3
    have SS := Lib.hid (hS1.out.trans S3)
    have LL := Lib.hid (hL1.out.trans L3)
    have HV := Lib.hid vbo
    clear hW2 hW3 b2 b3 o1 o2 o3 rb3 S3 L3 G2 M1 hop vbo hoc
    go_wp2_with fail
    go_ret
    rw [← HW1.out, ← HW2.out, ← HW3.out]
    refine ⟨rfl, ⟨vb, .slice none 0 0, .pointer (some ⟨o, 0, none⟩), H.out.turn (m' := doP m s wd) (by simpa [doP, ho] using B3.out) (by simpa [doP, ho] using R3.out) (by simp [doP, ho]; exact World.ownsRow_nil _ _ _ _) (fun g e => .inl e) (fun g e => by cases e) (.inl fun g e => by cases e) (by simp [doP, ho]; exact ⟨o, rfl, hob, O3.out⟩) hok⟩, SS.out, LL.out⟩
end Go.Proofs.Ytihfkoomimohbaa.Pstring
