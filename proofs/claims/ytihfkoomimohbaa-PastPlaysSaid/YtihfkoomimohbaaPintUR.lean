/- The methods of Past[int] that answer a step: Undo, Redo. -/
import Derived.Test.YtihfkoomimohbaaPintMeth
namespace Go.Proofs.Ytihfkoomimohbaa.Pint
open Go.RowKit Past17

theorem PAt.drew {w : World} {base b : Nat} {m : Pst Int} {vb va vo : Value} (h : PAt w base b m vb va vo) : PAt w.drew base b m vb va vo :=
  ⟨h.hb, h.blk, h.rb, h.ra, h.dis, ((Moves.refl w b [vb, va]).drew).op h, h.ok⟩
theorem past_now (w : World) (base b : Nat) (m : Pst Int) (h : Past w base b m) : Calls Try.prog 18 #[.pointer (some ⟨b, 0, none⟩)] w fun e w' => e = .returned (.int .i64 m.st) ∧ w' = w := by
  obtain ⟨vb, va, vo, h⟩ := h
  exact now_calls b m.st [.int .i64 m.most, vb, va, vo] w h.blk
def ansT : Option (Int × ByteArray) × Int → Value
  | (some x, n) => .tuple #[.int .i64 x.1, .string x.2, .int .i64 n]
  | (none, n) => .tuple #[.int .i64 (0 : Int), .string ⟨#[]⟩, .int .i64 n]

set_option maxRecDepth 100000 in
set_option maxHeartbeats 1000000 in
theorem undo_calls (w : World) (base b : Nat) (m : Pst Int) (h : Past w base b m) :
    Calls Try.prog 19 #[.pointer (some ⟨b, 0, none⟩)] w fun e w' => e = .returned (ansT (undoA m)) ∧ Past w' base b (undoP m) ∧ Spares w w' ∧ Below base w w' := by
  obtain ⟨vb, va, vo, h⟩ := h
  have hlt := h.lt
  have cO := of_cells h.blk 4 vo rfl
  have hop := opAt_cases h.op
  have H := Lib.hid h
  clear h
  go_enter Try.func19, Try.ntmps19
  go_wp2_with fail
  refine (closed_calls b vo m.opn.isSome w cO hop).mono ?_
  rintro e w' ⟨rfl, rfl⟩
  cases ho : m.opn with
  | some x =>
    go_wp2_with fail
    refine bodyPost_ret (v := .tuple #[.int .i64 (0 : Int), .string ⟨#[]⟩, .int .i64 171]) (by simp [results, Try.results19, go_sem]) rfl ⟨by simp [undoA, ho, ansT], ⟨vb, va, vo, by simpa [undoP, ho] using H.out⟩, Spares.refl _, Below.refl _ _⟩
  | none =>
    rcases List.eq_nil_or_concat m.back with hl | ⟨l, x, hl⟩
    · go_wp2_with fail
      have hD : PAt w'.drew base b m vb va vo := H.out.drew
      have HD := Lib.hid hD
      have HLl := Lib.hid hl
      have HO := Lib.hid ho
      clear hD hl ho
      go_region_with (go_at_call 39; (with_reducible refine (over_undo_none _ base b m vb va vo HD.out HLl.out).mono ?_); rintro e w2 ⟨rfl, rfl⟩)
      all_goals
        go_wp2_with fail
        refine bodyPost_ret (v := .tuple #[.int .i64 (0 : Int), .string ⟨#[]⟩, .int .i64 170]) (by simp [results, Try.results19, go_sem]) rfl ⟨by simp [undoA, HO.out, HLl.out, ansT], ⟨vb, va, vo, by simpa [undoP, HO.out, HLl.out] using HD.out⟩, fun _ _ _ _ e _ _ _ => e, (Below.refl _ _).drew⟩
    · rw [List.concat_eq_append] at hl
      go_wp2_with fail
      have hD : PAt w'.drew base b m vb va vo := H.out.drew
      have HD := Lib.hid hD
      have HLl := Lib.hid hl
      have HO := Lib.hid ho
      clear hD hl ho
      go_region_with (go_at_call 39; (with_reducible refine (over_undo_some _ base b m vb va vo HD.out HO.out l x HLl.out).mono ?_); rintro e w2 ⟨rfl, ⟨vb2, va2, P2⟩, S2, L2⟩; have HP2 := Lib.hid P2; have HS2 := Lib.hid S2; have HL2 := Lib.hid L2; clear P2 S2 L2)
      all_goals
        go_wp2_with fail
        refine bodyPost_ret (v := .tuple #[.int .i64 x.1, .string x.2, .int .i64 0]) (by simp [results, Try.results19, go_sem]) rfl ⟨by simp [undoA, HO.out, HLl.out, ansT], ⟨vb2, va2, vo, by simpa [undoP, HO.out, HLl.out] using HP2.out⟩, HS2.out, ((Below.refl _ _).drew).trans HL2.out⟩

set_option maxRecDepth 100000 in
set_option maxHeartbeats 1000000 in
theorem redo_calls (w : World) (base b : Nat) (m : Pst Int) (h : Past w base b m) :
    Calls Try.prog 20 #[.pointer (some ⟨b, 0, none⟩)] w fun e w' => e = .returned (ansT (redoA m)) ∧ Past w' base b (redoP m) ∧ Spares w w' ∧ Below base w w' := by
  obtain ⟨vb, va, vo, h⟩ := h
  have hlt := h.lt
  have cO := of_cells h.blk 4 vo rfl
  have hop := opAt_cases h.op
  have H := Lib.hid h
  clear h
  go_enter Try.func20, Try.ntmps20
  go_wp2_with fail
  refine (closed_calls b vo m.opn.isSome w cO hop).mono ?_
  rintro e w' ⟨rfl, rfl⟩
  cases ho : m.opn with
  | some x =>
    go_wp2_with fail
    refine bodyPost_ret (v := .tuple #[.int .i64 (0 : Int), .string ⟨#[]⟩, .int .i64 171]) (by simp [results, Try.results20, go_sem]) rfl ⟨by simp [redoA, ho, ansT], ⟨vb, va, vo, by simpa [redoP, ho] using H.out⟩, Spares.refl _, Below.refl _ _⟩
  | none =>
    rcases List.eq_nil_or_concat m.again with hl | ⟨l, x, hl⟩
    · go_wp2_with fail
      have hD : PAt w'.drew base b m vb va vo := H.out.drew
      have HD := Lib.hid hD
      have HLl := Lib.hid hl
      have HO := Lib.hid ho
      clear hD hl ho
      go_region_with (go_at_call 39; (with_reducible refine (over_redo_none _ base b m vb va vo HD.out HLl.out).mono ?_); rintro e w2 ⟨rfl, rfl⟩)
      all_goals
        go_wp2_with fail
        refine bodyPost_ret (v := .tuple #[.int .i64 (0 : Int), .string ⟨#[]⟩, .int .i64 170]) (by simp [results, Try.results20, go_sem]) rfl ⟨by simp [redoA, HO.out, HLl.out, ansT], ⟨vb, va, vo, by simpa [redoP, HO.out, HLl.out] using HD.out⟩, fun _ _ _ _ e _ _ _ => e, (Below.refl _ _).drew⟩
    · rw [List.concat_eq_append] at hl
      go_wp2_with fail
      have hD : PAt w'.drew base b m vb va vo := H.out.drew
      have HD := Lib.hid hD
      have HLl := Lib.hid hl
      have HO := Lib.hid ho
      clear hD hl ho
      go_region_with (go_at_call 39; (with_reducible refine (over_redo_some _ base b m vb va vo HD.out HO.out l x HLl.out).mono ?_); rintro e w2 ⟨rfl, ⟨vb2, va2, P2⟩, S2, L2⟩; have HP2 := Lib.hid P2; have HS2 := Lib.hid S2; have HL2 := Lib.hid L2; clear P2 S2 L2)
      all_goals
        go_wp2_with fail
        refine bodyPost_ret (v := .tuple #[.int .i64 x.1, .string x.2, .int .i64 0]) (by simp [results, Try.results20, go_sem]) rfl ⟨by simp [redoA, HO.out, HLl.out, ansT], ⟨vb2, va2, vo, by simpa [redoP, HO.out, HLl.out] using HP2.out⟩, HS2.out, ((Below.refl _ _).drew).trans HL2.out⟩
end Go.Proofs.Ytihfkoomimohbaa.Pint
