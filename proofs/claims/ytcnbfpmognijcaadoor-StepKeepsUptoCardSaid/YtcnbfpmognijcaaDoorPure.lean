import GoSem.Core.Utf8
import Derived.Lib.DecodeN
namespace Galley
open Go

/-- the byte at a place, as a number (0 beyond the end) -/
def bt (s : ByteArray) (i : Nat) : Nat := (s.get! i).toNat
theorem bt_lt (s : ByteArray) (i : Nat) : bt s i < 256 := (s.get! i).toNat_lt

/-- the table of the document over n bytes that begin x y z u: the rune, and how many bytes the encoding has (0: none begins) -/
def stepN (n x y z u : Nat) : Nat × Nat :=
  if 0 < n ∧ x < 128 then (x, 1)
  else if 1 < n ∧ 194 ≤ x ∧ x ≤ 223 ∧ 128 ≤ y ∧ y ≤ 191 then (x % 32 * 64 + y % 64, 2)
  else if 2 < n ∧ 128 ≤ z ∧ z ≤ 191 ∧ ((x = 224 ∧ 160 ≤ y ∧ y ≤ 191) ∨ (225 ≤ x ∧ x ≤ 236 ∧ 128 ≤ y ∧ y ≤ 191) ∨ (x = 237 ∧ 128 ≤ y ∧ y ≤ 159) ∨ (238 ≤ x ∧ x ≤ 239 ∧ 128 ≤ y ∧ y ≤ 191))
    then (x % 16 * 4096 + y % 64 * 64 + z % 64, 3)
  else if 3 < n ∧ 128 ≤ z ∧ z ≤ 191 ∧ 128 ≤ u ∧ u ≤ 191 ∧ ((x = 240 ∧ 144 ≤ y ∧ y ≤ 191) ∨ (241 ≤ x ∧ x ≤ 243 ∧ 128 ≤ y ∧ y ≤ 191) ∨ (x = 244 ∧ 128 ≤ y ∧ y ≤ 143))
    then (x % 8 * 262144 + y % 64 * 4096 + z % 64 * 64 + u % 64, 4)
  else (65533, 0)

set_option maxRecDepth 100000 in
set_option maxHeartbeats 4000000 in
theorem decodeN_stepN (n x y z u : Nat) (hn : 0 < n) (h0 : x < 256) (h1 : y < 256) (h2 : z < 256) (h3 : u < 256) :
    Lib.decodeN n x y z u = ((stepN n x y z u).1, if (stepN n x y z u).2 = 0 then 1 else (stepN n x y z u).2) := by
  unfold stepN Lib.decodeN
  repeat' split
  all_goals first | rfl | (exfalso; omega) | (apply Prod.ext <;> simp only <;> omega)

end Galley
