/- The walk of PastNames. -/
import Derived.Test.YtihfkoomimohbaaFix
import Derived.Test.YtihfkoomimohbaaPintMem
namespace Go.Proofs.Ytihfkoomimohbaa
open Go.RowKit Past17

set_option maxRecDepth 100000 in
set_option maxHeartbeats 1000000 in
theorem names_walk (w : World) : Calls Try.prog 3 #[] w fun e w' => e = .returned (.bool true) ∧ Below w.heap.size w w' := by
  go_enter Try.func3, Try.ntmps3
  go_wp2_with fail
  refine (Pint.new_bad 1 (-1) w (by decide)).mono ?_
  rintro e w1 ⟨rfl, rfl⟩
  go_wp2_with fail
  refine (Pint.new_bad 1 4097 w1 (by decide)).mono ?_
  rintro e w2 ⟨rfl, rfl⟩
  go_wp2_with fail
  refine (Pint.new_good 1 4096 w2 (by decide)).mono ?_
  rintro e w3 ⟨rfl, hw3⟩
  have L3 : Below w2.heap.size w2 w3 := by rw [hw3]; exact (Below.refl _ w2).alloc (Nat.le_refl _) _
  have L3 := Lib.hid L3
  clear hw3
  go_wp2_with fail
  refine (Pint.new_good 1 0 w3 (by decide)).mono ?_
  rintro e w4 ⟨rfl, hw4⟩
  have L4 : Below w3.heap.size w3 w4 := by rw [hw4]; exact (Below.refl _ w3).alloc (Nat.le_refl _) _
  have L4 := Lib.hid (L3.out.trans (L4.mono L3.out.size))
  clear hw4
  go_wp2_with fail
  refine (fixed_calls w4).mono ?_
  rintro e w5 ⟨rfl, L5⟩
  have L5 := Lib.hid (L4.out.trans (L5.mono L4.out.size))
  go_wp2_with fail
  go_ret
  exact ⟨rfl, L5.out⟩
end Go.Proofs.Ytihfkoomimohbaa
