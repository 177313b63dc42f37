/- Contracts of strings.HasPrefix (at the replacement rune) and step.first. -/
import Derived.Test.YtcnbfpmognijcaaDoorProg
import Derived.Test.YtcnbfpmognijcaaDoorPure2
import Derived.WalkKit
import Derived.WalkSpells
import Derived.WalkLawsBesides
import Derived.LoopN
import Derived.Lib.Hide
namespace Go.Proofs.YtcnbfpmognijcaaDoor
open Go.RowKit Galley

/-- the package-level variable step.bad as its initialiser lays it -/
structure BadLies (w : World) : Prop where
  c0 : w.cell? ⟨0, 0, none⟩ = some (.int .i32 65533)
  c1 : w.cell? ⟨0, 1, none⟩ = some (.int .i64 1)
  c2 : w.cell? ⟨0, 2, none⟩ = some (.bool false)
theorem BadLies.lt {w : World} (h : BadLies w) : 0 < w.heap.size := World.block_lt_of_cell? w _ h.c0
theorem BadLies.below {w w' : World} {B : Nat} (h : BadLies w) (hb : Below B w w') (hB : 0 < B) : BadLies w' :=
  ⟨(hb.cell (p := ⟨0, 0, none⟩) hB).trans h.c0, (hb.cell (p := ⟨0, 1, none⟩) hB).trans h.c1, (hb.cell (p := ⟨0, 2, none⟩) hB).trans h.c2⟩

theorem field0 (a b c : Value) (w : World) : (Instr.field 32 (.agg #[a, b, c]) 0).run Tryd.prog w = .ok a w := by kernel_rfl
theorem field1 (a b c : Value) (w : World) : (Instr.field 32 (.agg #[a, b, c]) 1).run Tryd.prog w = .ok b w := by kernel_rfl
theorem field2 (a b c : Value) (w : World) : (Instr.field 32 (.agg #[a, b, c]) 2).run Tryd.prog w = .ok c w := by kernel_rfl

set_option maxHeartbeats 400000 in
theorem hasPrefix_calls (s : ByteArray) (w : World) :
    Calls Tryd.prog 39 #[.string s, .string ⟨#[239, 191, 189]⟩] w fun e w' => e = .returned (.bool (hasP s)) ∧ w = w' := by
  by_cases h3 : 3 ≤ s.size
  · have HL := Lib.hid (hasP_list s h3)
    go_enter Tryd.func39, Tryd.ntmps39
    go_wp2
    go_ret
    exact ⟨by rw [← HL.out]; rfl, rfl⟩
  · have HL := Lib.hid (hasP_short s (by omega))
    have h3' : s.size < 3 := by omega
    clear h3
    go_enter Tryd.func39, Tryd.ntmps39
    go_wp2
    go_ret
    exact ⟨by rw [HL.out]; rfl, rfl⟩

/-- what step.first hands back of a string that begins with this step -/
abbrev stepV (s : ByteArray) (p : Nat) : Value := .agg #[.int .i32 (rune s p), .int .i64 (width s p), .bool (whole s p)]

theorem stepV_none (s : ByteArray) (p : Nat) (h : long s p = 0) : stepV s p = .agg #[.int .i32 65533, .int .i64 1, .bool false] := by
  unfold stepV width whole; rw [rune_none s p h, h]; rfl
theorem stepV_some (s : ByteArray) (p : Nat) (h : long s p ≠ 0) : stepV s p = .agg #[.int .i32 (rune s p), .int .i64 (Utf8.encode (rune s p : Int)).size, .bool true] := by
  unfold stepV width whole; rw [(rune_size s p h).2, if_neg h, decide_eq_true h]

theorem next_run (s : ByteArray) (w : World) (o : Obj) (hs : 0 < s.size) (ty : TypeId) (r : Int) (hr : (rune s 0 : Int) = r) :
    (Instr.next (.pointer (some ⟨w.heap.size + 1, 0, none⟩)) true ty).run Tryd.prog ((w.alloc o).iter s 0) =
      .ok (.tuple #[.bool true, .int .i64 0, .int .i32 r]) ((w.alloc o).alloc (.stringIter s (width s 0))) := by
  have h := run_next_any (P := Tryd.prog) (w.alloc o) s 0 ty hs
  rw [decode_eq s 0 hs] at h
  subst hr
  simpa [World.iter, World.size_alloc] using h

set_option maxHeartbeats 400000 in
theorem first_calls (s : ByteArray) (w : World) (hg : BadLies w) (hs : 0 < s.size) :
    Calls Tryd.prog 33 #[.string s] w fun e w' => e = .returned (stepV s 0) ∧ Below w.heap.size w w' := by
  have hlt := hg.lt
  obtain ⟨c0, c1, c2⟩ := hg
  by_cases hl : long s 0 = 0
  · have HS := Lib.hid (stepV_none s 0 hl)
    have hr := rune_none s 0 hl
    have hnx := fun ty => next_run s w (.cells #[.int .i32 0, .int .i64 0, .bool false] 32) hs ty 65533 (by rw [hr]; rfl)
    have hp : hasP s = false := by
      cases h : hasP s
      · rfl
      · have := repl_long s h; omega
    clear hr hl
    go_enter Tryd.func33, Tryd.ntmps33
    go_wp2_with fail
    refine wp_loop_rounds 1 ?_; rw [rounds_succ]
    go_wp2_with (go_at_call 39; refine (hasPrefix_calls s _).mono ?_; rintro e w' ⟨rfl, rfl⟩)
    refine bodyPost_ret (v := .agg #[.int .i32 65533, .int .i64 1, .bool false]) (by simp [results, Tryd.results33, go_sem]) rfl ⟨by rw [HS.out], ?_⟩
    exact ((Below.refl _ _).alloc (Nat.le_refl _) _).alloc (by simp) _
  · have HS := Lib.hid (stepV_some s 0 hl)
    by_cases hr : rune s 0 = 65533
    · have hp := rune_repl s hl hr
      rw [hr] at HS
      have hnx := fun ty => next_run s w (.cells #[.int .i32 0, .int .i64 0, .bool false] 32) hs ty 65533 (by rw [hr]; rfl)
      clear hr hl
      go_enter Tryd.func33, Tryd.ntmps33
      go_wp2_with fail
      refine wp_loop_rounds 1 ?_; rw [rounds_succ]
      go_wp2_with (go_at_call 39; refine (hasPrefix_calls s _).mono ?_; rintro e w' ⟨rfl, rfl⟩)
      refine bodyPost_ret (v := .agg #[.int .i32 65533, .int .i64 (Utf8.encode 65533).size, .bool true]) (by simp [results, Tryd.results33, go_sem]) rfl ⟨by rw [HS.out]; rfl, ?_⟩
      exact ((Below.refl _ _).alloc (Nat.le_refl _) _).alloc (by simp) _
    · obtain ⟨r, hR⟩ : ∃ r : Int, (rune s 0 : Int) = r := ⟨_, rfl⟩
      have hne : (r == 65533) = false := by rw [beq_eq_false_iff_ne]; omega
      have hnx := fun ty => next_run s w (.cells #[.int .i32 0, .int .i64 0, .bool false] 32) hs ty r hR
      rw [hR] at HS
      clear hr hl hR
      go_enter Tryd.func33, Tryd.ntmps33
      go_wp2_with fail
      refine wp_loop_rounds 1 ?_; rw [rounds_succ]
      go_wp2_with (go_at_call 39; refine (hasPrefix_calls s _).mono ?_; rintro e w' ⟨rfl, rfl⟩)
      refine bodyPost_ret (v := .agg #[.int .i32 r, .int .i64 (Utf8.encode r).size, .bool true]) (by simp [results, Tryd.results33, go_sem]) rfl ⟨by rw [HS.out], ?_⟩
      exact ((Below.refl _ _).alloc (Nat.le_refl _) _).alloc (by simp) _

/-- a block of three cells that was laid just ahead, and what came behind left it alone -/
theorem new3 {w w' : World} {a b c : Value} {t : TypeId} (hb : Below (w.alloc (.cells #[a, b, c] t)).heap.size (w.alloc (.cells #[a, b, c] t)) w') :
    w'.heap[w.heap.size]? = some (.cells #[a, b, c] t) ∧ w.heap.size < w'.heap.size ∧ Below w.heap.size w w' := by
  have h0 : (w.alloc (.cells #[a, b, c] t)).heap[w.heap.size]? = some (.cells #[a, b, c] t) := by
    show (w.heap.push _)[w.heap.size]? = _
    simp
  have hs := hb.size
  rw [World.size_alloc] at hs
  exact ⟨(hb.block _ (by rw [World.size_alloc]; omega)).trans h0, by omega, ((Below.refl _ w).alloc (Nat.le_refl _) _).trans (hb.mono (by rw [World.size_alloc]; omega))⟩
theorem cell_of3 {w : World} {k : Nat} {a b c : Value} {t : TypeId} (h : w.heap[k]? = some (.cells #[a, b, c] t)) :
    (w.cell? ⟨k, 0, none⟩ = some a ∧ w.cell? ⟨k, 1, none⟩ = some b ∧ w.cell? ⟨k, 2, none⟩ = some c) ∧
    (w.frozen? ⟨k, 0, none⟩ = false ∧ w.frozen? ⟨k, 1, none⟩ = false ∧ w.frozen? ⟨k, 2, none⟩ = false) := by
  simp [World.cell?, World.frozen?, h]
end Go.Proofs.YtcnbfpmognijcaaDoor
