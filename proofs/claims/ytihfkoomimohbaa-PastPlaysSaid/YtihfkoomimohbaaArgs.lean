/- Arguments: slices of calls, slices of numbers, as they read. -/
import Derived.Test.YtihfkoomimohbaaProg
import Derived.WalkKit
import Derived.Lib.Hide
import Derived.Below
namespace Go.Proofs.Ytihfkoomimohbaa
open Go.RowKit

/-- a slice of calls -/
def OpsAt (w : World) (A : Option Addr) (n : Nat) : Prop := n ≤ 9223372036854775807 ∧ ∀ i, i < n → ∃ (g off : Nat) (k s : Int) (wd : ByteArray), A = some ⟨g, off, none⟩ ∧
  w.cell? ⟨g, off + i * 3, none⟩ = some (.int .i64 k) ∧ w.cell? ⟨g, off + i * 3 + 1, none⟩ = some (.int .i64 s) ∧ w.cell? ⟨g, off + i * 3 + 2, none⟩ = some (.string wd)
/-- a slice of numbers -/
def NumsAt (w : World) (A : Option Addr) (n : Nat) : Prop := n ≤ 9223372036854775807 ∧ ∀ i, i < n → ∃ (g off : Nat) (k : Int), A = some ⟨g, off, none⟩ ∧ w.cell? ⟨g, off + i, none⟩ = some (.int .i64 k)
theorem OpsAt.below {w w' : World} {A : Option Addr} {n : Nat} (h : OpsAt w A n) (hb : Below w.heap.size w w') : OpsAt w' A n :=
  ⟨h.1, fun i hi => by
    obtain ⟨g, off, k, s, wd, e, h1, h2, h3⟩ := h.2 i hi
    have st : ∀ {a : Addr} {v : Value}, w.cell? a = some v → w'.cell? a = some v := fun h => (hb.cell (World.block_lt_of_cell? w _ h)).trans h
    exact ⟨g, off, k, s, wd, e, st h1, st h2, st h3⟩⟩
theorem NumsAt.below {w w' : World} {A : Option Addr} {n : Nat} (h : NumsAt w A n) (hb : Below w.heap.size w w') : NumsAt w' A n :=
  ⟨h.1, fun i hi => by
    obtain ⟨g, off, k, e, h1⟩ := h.2 i hi
    exact ⟨g, off, k, e, (hb.cell (World.block_lt_of_cell? w _ h1)).trans h1⟩⟩
end Go.Proofs.Ytihfkoomimohbaa
