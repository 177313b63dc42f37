/- The walk of PastPlays. -/
import Derived.Test.YtihfkoomimohbaaPlaysI
import Derived.Test.YtihfkoomimohbaaPlaysP
import Derived.Test.YtihfkoomimohbaaPlaysBadI
import Derived.Test.YtihfkoomimohbaaPlaysBadP
import Derived.Test.YtihfkoomimohbaaFix
namespace Go.Proofs.Ytihfkoomimohbaa
open Go.RowKit Past17

set_option maxRecDepth 100000 in
set_option maxHeartbeats 4000000 in
theorem plays_walk (first most : Int) (A : Option Addr) (c n : Nat) (w : World) (hA : OpsAt w A n) : Calls Try.prog 4 #[.int .i64 first, .int .i64 most, .slice A n c] w fun e w' => e = .returned (.bool true) ∧ Below w.heap.size w w' := by
  have HA := Lib.hid hA
  clear hA
  go_enter Try.func4, Try.ntmps4
  go_wp2_with fail
  refine (fixed_calls w).mono ?_
  rintro e w1 ⟨rfl, L1⟩
  replace L1 := Lib.hid L1
  by_cases hb : most < 0 ∨ 4096 < most
  · have hB := Lib.hid hb
    have hA1 := Lib.hid (HA.out.below L1.out)
    by_cases h1 : most < 0
    · have h2 : ¬ 300 < most := by omega
      clear hb
      go_wp2_with fail
      refine (playsbad_int first most A c n w1 hB.out hA1.out).mono ?_
      rintro e w2 ⟨rfl, L2⟩
      have hA2 := Lib.hid (hA1.out.below L2)
      replace L2 := Lib.hid (L1.out.trans (L2.mono L1.out.size))
      go_wp2_with fail
      refine (playsbad_pair first most A c n w2 hB.out hA2.out).mono ?_
      rintro e w3 ⟨rfl, L3⟩
      replace L3 := Lib.hid (L2.out.trans (L3.mono L2.out.size))
      go_wp2_with fail
      go_ret
      exact ⟨rfl, L3.out⟩
    · have h2 : 300 < most := by omega
      have h3 : ¬ most ≤ 4096 := by omega
      clear hb
      go_wp2_with fail
      refine (playsbad_int first most A c n w1 hB.out hA1.out).mono ?_
      rintro e w2 ⟨rfl, L2⟩
      have hA2 := Lib.hid (hA1.out.below L2)
      replace L2 := Lib.hid (L1.out.trans (L2.mono L1.out.size))
      go_wp2_with fail
      refine (playsbad_pair first most A c n w2 hB.out hA2.out).mono ?_
      rintro e w3 ⟨rfl, L3⟩
      replace L3 := Lib.hid (L2.out.trans (L3.mono L2.out.size))
      go_wp2_with fail
      go_ret
      exact ⟨rfl, L3.out⟩
  · obtain ⟨M, rfl⟩ : ∃ M : Nat, most = M := ⟨most.toNat, by omega⟩
    have hM : M ≤ 4096 := by omega
    have hA1 := Lib.hid (HA.out.below L1.out)
    clear hb
    by_cases h1 : (300 : Int) < M
    · have h2 : (M : Int) ≤ 4096 := by omega
      by_cases h3 : 50 < n
      · go_wp2_with fail
        refine (plays_int first 300 A c n w1 (by decide) hA1.out).mono ?_
        rintro e w2 ⟨rfl, L2⟩
        have hA2 := Lib.hid (hA1.out.below L2)
        replace L2 := Lib.hid (L1.out.trans (L2.mono L1.out.size))
        go_wp2_with fail
        refine (plays_pair first 300 A c n w2 (by decide) hA2.out).mono ?_
        rintro e w3 ⟨rfl, L3⟩
        replace L3 := Lib.hid (L2.out.trans (L3.mono L2.out.size))
        go_wp2_with fail
        go_ret
        exact ⟨rfl, L3.out⟩
      · go_wp2_with fail
        refine (plays_int first M A c n w1 hM hA1.out).mono ?_
        rintro e w2 ⟨rfl, L2⟩
        have hA2 := Lib.hid (hA1.out.below L2)
        replace L2 := Lib.hid (L1.out.trans (L2.mono L1.out.size))
        go_wp2_with fail
        refine (plays_pair first M A c n w2 hM hA2.out).mono ?_
        rintro e w3 ⟨rfl, L3⟩
        replace L3 := Lib.hid (L2.out.trans (L3.mono L2.out.size))
        go_wp2_with fail
        go_ret
        exact ⟨rfl, L3.out⟩
    · go_wp2_with fail
      refine (plays_int first M A c n w1 hM hA1.out).mono ?_
      rintro e w2 ⟨rfl, L2⟩
      have hA2 := Lib.hid (hA1.out.below L2)
      replace L2 := Lib.hid (L1.out.trans (L2.mono L1.out.size))
      go_wp2_with fail
      refine (plays_pair first M A c n w2 hM hA2.out).mono ?_
      rintro e w3 ⟨rfl, L3⟩
      replace L3 := Lib.hid (L2.out.trans (L3.mono L2.out.size))
      go_wp2_with fail
      go_ret
      exact ⟨rfl, L3.out⟩
end Go.Proofs.Ytihfkoomimohbaa
