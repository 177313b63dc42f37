/- Contracts of step.Runes and step.Valid. -/
import Derived.Test.YtcnbfpmognijcaaDoorStep2
import Derived.Test.YtcnbfpmognijcaaDoorPure4
import Derived.Deep.RegionWith
namespace Go.Proofs.YtcnbfpmognijcaaDoor
open Go.RowKit Galley Go.Proofs.YtcnbfpmognijcaaDoorW.PrintWords

theorem alloc_drew_at (w : World) (o : Obj) : (w.drew.alloc o).heap[w.heap.size]? = some o := by
  show (w.heap.push o)[w.heap.size]? = some o
  simp

/-- '[]rune(s)': a row of the call's own -/
theorem runes_conv (s : ByteArray) (w : World) (h : s.size ≤ 70368744177664) :
    ∃ v W, (convert 9 33 (.string s)).run Tryd.prog w = .ok v W ∧ (Kd.int .i32).R 21 W w.heap.size (fun _ => True) v (runesL s) ∧ Below w.heap.size w W := by
  have hn : (Conv.runesFrom s s.size 0 #[]).size = (runesL s).length := by rw [runesFrom_all]; simp
  have hl := runesL_length s
  have hp := posL_length s
  have hrun := run_runes_of_string (P := Tryd.prog) w 9 33 21 s Tryd.underlying9 Tryd.underlying33 Tryd.underlying21 (by rw [hn]; omega)
  rw [hn, runesFrom_all] at hrun
  have hge := grownCap_ge w (runesL s).length 0 21
  refine ⟨_, _, hrun, ?_, ((Below.refl _ w).drew).alloc (by simp) _⟩
  refine Kd.R_of_own (enc := Value.int .i32) (h1 := fun _ => rfl) ⟨by simp [encs], .inr ⟨w.heap.size, _, _, rfl, Nat.le_refl _, alloc_drew_at w _, hge, grownCap_le_maxLen w _ 0 _ (by unfold maxLen; omega), ?_, ?_⟩⟩ (fun _ _ => trivial)
  · simp; omega
  · simp [encs]

set_option maxHeartbeats 400000 in
theorem runes_calls (A : Option Addr) (c : Nat) (s : ByteArray) (w : World) (hb : Byt w A c s) (h : s.size ≤ 70368744177664) :
    Calls Tryd.prog 13 #[.slice A s.size c] w fun e w' => ∃ v, e = .returned v ∧ (Kd.int .i32).R 21 w' w.heap.size (fun _ => True) v (runesL s) ∧ Below w.heap.size w w' := by
  have hstr := hb.str
  obtain ⟨v, W, hrun, hR, hB⟩ := runes_conv s w h
  have HR := Lib.hid hR
  have HB := Lib.hid hB
  clear hb h hR hB
  go_enter Tryd.func13, Tryd.ntmps13
  go_wp2_with fail
  go_ret
  exact ⟨v, rfl, HR.out, HB.out⟩

/-- 'string(runes)' of a row of runes -/
theorem runes_str (w : World) (B : Nat) (ok : Nat → Prop) (v : Value) (l : List Int) (h : (Kd.int .i32).R 21 w B ok v l) :
    (convert 33 9 v).run Tryd.prog w = .ok (.string (runesBytes l)) w := by
  obtain ⟨A, c, rfl, hl, hr⟩ := Kd.R_reads h
  have hr' := Kd.reads_of_C (enc := Value.int .i32) (d := (0 : Int)) (h1 := fun _ => rfl) hr
  cases A with
  | none =>
    rw [run_convert_runes_nil (P := Tryd.prog) w 33 9 21 l.length c Tryd.underlying33 Tryd.underlying21 Tryd.underlying9]
    have h0 : l = [] := by
      cases l with
      | nil => rfl
      | cons x l => obtain ⟨ad, he, _⟩ := hr.2.2 (by simp); cases he
    subst h0; rfl
  | some a =>
    have := run_convert_runes (P := Tryd.prog) w 33 9 21 a l.length c l (Nat.le_refl _) Tryd.underlying33 Tryd.underlying21 Tryd.underlying9 (fun j hj => by
      obtain ⟨ad, he, hc⟩ := hr'.2.2 (by omega)
      cases he
      exact hc j hj)
    rwa [List.take_length] at this

set_option maxHeartbeats 1000000 in
theorem valid_calls (A : Option Addr) (c : Nat) (s : ByteArray) (w : World) (hb : Byt w A c s) (h : s.size ≤ 70368744177664) :
    Calls Tryd.prog 16 #[.slice A s.size c] w fun e w' => e = .returned (.bool (validB s)) ∧ Below w.heap.size w w' := by
  have hb' : Byt w.drew A c s := hb.below (Below.refl _ _).drew
  have hstr := hb'.str
  have HBy := Lib.hid hb'
  have HV : Hid (validB s = ((runesBytes (runesL s)).toList == s.toList)) := rfl
  clear hb hb'
  go_enter Tryd.func16, Tryd.ntmps16
  go_wp2_with fail
  go_region_with (go_at_call 13; refine (runes_calls A c s _ HBy.out h).mono ?_; rintro e w' ⟨v, rfl, hR, hB⟩; have hs1 := runes_str _ _ _ _ _ hR; have hs2 := (HBy.out.below hB).str; have HB := Lib.hid hB; clear hR hB)
  all_goals go_wp2
  all_goals go_ret
  all_goals exact ⟨by rw [HV.out]; rfl, (Below.refl _ _).drew.trans HB.out⟩
end Go.Proofs.YtcnbfpmognijcaaDoor
