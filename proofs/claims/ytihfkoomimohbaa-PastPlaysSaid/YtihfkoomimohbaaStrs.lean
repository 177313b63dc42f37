/- Rows of strings that a call made; the statements' words. -/
import Derived.Test.YtihfkoomimohbaaProg
import Derived.WalkKit
import Derived.Lib.Hide
import Derived.Below
import Derived.Deep.LoopGhost
import Derived.Deep.QuietTactic
import Derived.BigQuiet
namespace Go.Proofs.Ytihfkoomimohbaa
open Go.RowKit

theorem infoStr : (Try.prog.info? 9).map (fun i => (i.zero, i.size, i.bytes)) = some (some (.string ⟨#[]⟩), 1, 16) := by kernel_rfl
theorem cell_stays {w w' : World} (hb : Below w.heap.size w w') {a : Addr} {v : Value} (h : w.cell? a = some v) : w'.cell? a = some v :=
  (hb.cell (p := a) (World.block_lt_of_cell? w _ h)).trans h
/-- a slice of strings that lies in a row of the call's own -/
def StrRow (w : World) (base : Nat) (v : Value) (L : List ByteArray) : Prop := w.ownsRow base 9 1 v L.length (L.map Value.string)
/-- a slice of strings as it reads -/
def Strs (w : World) (A : Option Addr) (L : List ByteArray) : Prop := ∀ (j : Nat) s, L[j]? = some s → ∃ g, A = some ⟨g, 0, none⟩ ∧ w.cell? ⟨g, j, none⟩ = some (.string s)
theorem add_zero_none (g j : Nat) : (⟨g, 0, none⟩ : Addr).add j = ⟨g, j, none⟩ := by unfold Addr.add; split <;> simp_all
theorem StrRow.reads {w : World} {base : Nat} {v : Value} {L : List ByteArray} (h : StrRow w base v L) : ∃ A c, v = .slice A L.length c ∧ Strs w A L := by
  rcases h.2 with ⟨e, hn⟩ | ⟨g, cap, cur, e, _⟩
  · refine ⟨none, 0, by rw [e, hn], fun j s hj => ?_⟩
    have := (List.getElem?_eq_some_iff.1 hj).1
    omega
  · refine ⟨_, _, e, fun j s hj => ⟨g, rfl, ?_⟩⟩
    subst e
    have h1 := h.cells (g := g) rfl j (.string s) (by rw [List.getElem?_map, hj]; rfl)
    rwa [add_zero_none] at h1
theorem StrRow.below {w w' : World} {base : Nat} {v : Value} {L : List ByteArray} (h : StrRow w base v L) (hb : Below w.heap.size w w') : StrRow w' base v L :=
  World.ownsRow.kept h (row := none) ⟨hb.os, hb.tape, hb.output, hb.size, fun k hk _ => hb.block k hk⟩ (by cases v.ownBlock <;> simp)
theorem StrRow.mono {w : World} {base base' : Nat} {v : Value} {L : List ByteArray} (h : StrRow w base v L) (hb : base' ≤ base) : StrRow w base' v L :=
  ⟨h.1, h.2.imp id fun ⟨g, cap, cur, h1, h2, h3⟩ => ⟨g, cap, cur, h1, Nat.le_trans hb h2, h3⟩⟩
theorem Strs.below {w w' : World} {A : Option Addr} {L : List ByteArray} (h : Strs w A L) (hb : Below w.heap.size w w') : Strs w' A L := fun j s hj => by
  obtain ⟨g, e, h1⟩ := h j s hj
  exact ⟨g, e, cell_stays hb h1⟩

set_option maxRecDepth 100000 in
set_option maxHeartbeats 1000000 in
theorem same_words (w : World) (A1 A2 : Option Addr) (c1 c2 : Nat) (L : List ByteArray) (h1 : Strs w A1 L) (h2 : Strs w A2 L) (hn : L.length ≤ 1073741824) :
    Calls Try.prog 21 #[.slice A1 L.length c1, .slice A2 L.length c2] w fun e w' => e = .returned (.bool true) ∧ Below w.heap.size w w' := by
  have H1 := Lib.hid h1
  have H2 := Lib.hid h2
  clear h1 h2
  go_enter Try.func21, Try.ntmps21
  go_wp2_with fail
  go_loopw [13] (fun i wr => ∃ k : Nat, i = .int .i64 k ∧ k ≤ L.length ∧ Below w.heap.size w wr) (fun i _ => L.length - (intOf i).toNat)
  case atStart => exact ⟨0, rfl, Nat.zero_le _, Below.refl _ _⟩
  case round =>
    obtain ⟨k, rfl, hk, hbw⟩ := hrel
    have HW := Lib.hid hbw
    clear hbw
    by_cases hkl : k < L.length
    · obtain ⟨x, hx⟩ : ∃ x, L[k]? = some x := ⟨_, List.getElem?_eq_getElem hkl⟩
      obtain ⟨g1, rfl, k1⟩ := (H1.out.below HW.out) k x hx
      obtain ⟨g2, rfl, k2⟩ := (H2.out.below HW.out) k x hx
      clear hx
      go_wp2_with fail
      go_quiet (fail)
      have HBD : Hid (Below w.heap.size w (wr.drewN nq)) := ⟨HW.out.os, HW.out.tape, HW.out.output, HW.out.size, HW.out.block⟩
      go_wp2_with fail
      go_roundw
      case rel => exact ⟨k + 1, by go_num, by omega, HBD.out⟩
      case measure => simp [intOf]; omega
    · obtain rfl : k = L.length := by omega
      go_wp2_with fail
      go_ret
      exact ⟨rfl, HW.out⟩
end Go.Proofs.Ytihfkoomimohbaa
