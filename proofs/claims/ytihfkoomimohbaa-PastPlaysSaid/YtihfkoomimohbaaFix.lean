/- The contract of the statements' closed part, fixed. -/
import Derived.Test.YtihfkoomimohbaaPstringUR
import Derived.Test.YtihfkoomimohbaaStrs
namespace Go.Proofs.Ytihfkoomimohbaa
open Go.RowKit Past17

def fx : Pst ByteArray := doP (doP (doP (newP ⟨#[97]⟩ 2) ⟨#[98]⟩ ⟨#[111, 110, 101]⟩) ⟨#[99]⟩ ⟨#[116, 119, 111]⟩) ⟨#[100]⟩ ⟨#[116, 104, 114, 101, 101]⟩
theorem fx_undo : undoA fx = (some (⟨#[99]⟩, ⟨#[116, 104, 114, 101, 101]⟩), 0) := by rfl
theorem fx_now : (undoP fx).st = ⟨#[99]⟩ := by rfl

set_option maxRecDepth 100000 in
set_option maxHeartbeats 1000000 in
theorem fixed_calls (w : World) : Calls Try.prog 10 #[] w fun e w' => e = .returned (.bool true) ∧ Below w.heap.size w w' := by
  go_enter Try.func10, Try.ntmps10
  go_wp2_with fail
  refine (Pstring.new_good ⟨#[97]⟩ 2 w (by decide)).mono ?_
  rintro e w1 ⟨rfl, hw1⟩
  have H1 : Hid (Pstring.Past w1 w.heap.size w.heap.size (newP ⟨#[97]⟩ 2)) := by rw [hw1]; exact Pstring.past_new _ 2 w _ (Nat.le_refl _) (by decide)
  have L1 : Hid (Below w.heap.size w w1) := by rw [hw1]; exact (Below.refl _ w).alloc (Nat.le_refl _) _
  clear hw1
  go_wp2_with fail
  refine (Pstring.do_calls w1 w.heap.size w.heap.size _ ⟨#[98]⟩ ⟨#[111, 110, 101]⟩ H1.out).mono ?_
  rintro e w2 ⟨rfl, H2, _, L2⟩
  have H2 := Lib.hid H2
  have L2 := Lib.hid (L1.out.trans L2)
  go_wp2_with fail
  refine (Pstring.do_calls w2 w.heap.size w.heap.size _ ⟨#[99]⟩ ⟨#[116, 119, 111]⟩ H2.out).mono ?_
  rintro e w3 ⟨rfl, H3, _, L3⟩
  have H3 := Lib.hid H3
  have L3 := Lib.hid (L2.out.trans L3)
  go_wp2_with fail
  refine (Pstring.do_calls w3 w.heap.size w.heap.size _ ⟨#[100]⟩ ⟨#[116, 104, 114, 101, 101]⟩ H3.out).mono ?_
  rintro e w4 ⟨rfl, H4, _, L4⟩
  have H4 : Hid (Pstring.Past w4 w.heap.size w.heap.size fx) := Lib.hid H4
  have L4 := Lib.hid (L3.out.trans L4)
  go_wp2_with fail
  refine (Pstring.undo_calls w4 w.heap.size w.heap.size fx H4.out).mono ?_
  rintro e w5 ⟨rfl, H5, _, L5⟩
  rw [fx_undo]
  have H5 := Lib.hid H5
  have L5 := Lib.hid (L4.out.trans L5)
  clear H1 H2 H3 H4 L1 L2 L3 L4
  unfold Pstring.ansT
  go_wp2_with fail
  refine (Pstring.past_now w5 w.heap.size w.heap.size (undoP fx) H5.out).mono ?_
  rintro e w6 ⟨rfl, rfl⟩
  rw [fx_now]
  go_wp2_with fail
  go_ret
  exact ⟨rfl, L5.out⟩
end Go.Proofs.Ytihfkoomimohbaa
