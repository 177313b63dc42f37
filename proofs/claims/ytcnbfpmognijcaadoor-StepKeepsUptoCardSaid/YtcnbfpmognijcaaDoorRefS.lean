/- Contracts of the reference's Same, Alike. -/
import Derived.Test.YtcnbfpmognijcaaDoorRefE
namespace Go.Proofs.YtcnbfpmognijcaaDoor
open Go.RowKit Galley Go.Proofs.YtcnbfpmognijcaaDoorW.PrintWords

/-- a row of places; a row of steps -/
def PlacesAt (w : World) (A : Option Addr) (l : List Nat) : Prop := ∀ (j q : Nat), l[j]? = some q → ∃ g, A = some ⟨g, 0, none⟩ ∧ w.cell? ⟨g, j, none⟩ = some (.int .i64 q)
def StepsAt (w : World) (A : Option Addr) (s : ByteArray) (l : List Nat) : Prop := ∀ (j q : Nat), l[j]? = some q → ∃ g, A = some ⟨g, 0, none⟩ ∧ w.cell? ⟨g, j * 3, none⟩ = some (.int .i32 (rune s q)) ∧ w.cell? ⟨g, j * 3 + 1, none⟩ = some (.int .i64 (width s q)) ∧ w.cell? ⟨g, j * 3 + 2, none⟩ = some (.bool (whole s q))
theorem PlacesAt.below {w w' : World} {A : Option Addr} {l : List Nat} (h : PlacesAt w A l) (hb : Below w.heap.size w w') : PlacesAt w' A l := fun j q hj => by
  obtain ⟨g, e, h1⟩ := h j q hj; exact ⟨g, e, cell_stays hb h1⟩
theorem StepsAt.below {w w' : World} {A : Option Addr} {s : ByteArray} {l : List Nat} (h : StepsAt w A s l) (hb : Below w.heap.size w w') : StepsAt w' A s l := fun j q hj => by
  obtain ⟨g, e, h1, h2, h3⟩ := h j q hj; exact ⟨g, e, cell_stays hb h1, cell_stays hb h2, cell_stays hb h3⟩
theorem steps_of_row {w : World} {base n : Nat} {s : ByteArray} {l : List Nat} {v : Value} (h : w.ownsRow base 32 3 v n (l.flatMap (stepCells s))) : ∃ A c, v = .slice A n c ∧ StepsAt w A s l := by
  obtain ⟨A2, c2, e2, g2⟩ := own_cells h
  refine ⟨A2, c2, e2, fun j q hj => ?_⟩
  obtain ⟨f1, f2, f3⟩ := flat_get s l j q hj
  obtain ⟨g, e, k1⟩ := g2 _ _ f1
  obtain ⟨g', e', k2⟩ := g2 _ _ f2
  obtain ⟨g'', e'', k3⟩ := g2 _ _ f3
  subst e
  cases e'; cases e''
  exact ⟨g, rfl, k1, k2, k3⟩

set_option maxHeartbeats 400000 in
theorem refSame_calls (A1 A2 : Option Addr) (c1 c2 : Nat) (s : ByteArray) (l : List Nat) (w : World) (hs : l.length ≤ 1073741824) (h1 : StepsAt w A1 s l) (h2 : StepsAt w A2 s l) :
    Calls Tryd.prog 29 #[.slice A1 l.length c1, .slice A2 l.length c2] w fun e w' => e = .returned (.bool true) ∧ Below w.heap.size w w' := by
  have H1 := Lib.hid h1
  have H2 := Lib.hid h2
  clear h1 h2
  go_enter Tryd.func29, Tryd.ntmps29
  go_wp2_with fail
  go_loopw [5] (fun i wr => ∃ k : Nat, k ≤ l.length ∧ i = .int .i64 k ∧ Below w.heap.size w wr) (fun i _ => l.length - (intOf i).toNat)
  case atStart => exact ⟨0, Nat.zero_le _, rfl, Below.refl _ _⟩
  case round =>
    obtain ⟨k, hk, rfl, hbw⟩ := hrel
    have HB := Lib.hid hbw
    clear hbw
    by_cases hlt : k < l.length
    · obtain ⟨q, hq⟩ : ∃ q, l[k]? = some q := ⟨_, List.getElem?_eq_getElem hlt⟩
      obtain ⟨a1, rfl, k1, k2, k3⟩ := H1.out.below HB.out k q hq
      obtain ⟨a2, rfl, m1, m2, m3⟩ := H2.out.below HB.out k q hq
      generalize (rune s q : Int) = r at k1 m1
      generalize (width s q : Int) = wd at k2 m2
      generalize whole s q = wh at k3 m3
      clear hq
      go_wp2_with fail
      go_quiet (fail)
      go_wp2_with fail
      go_roundw
      case rel => exact ⟨k + 1, by omega, by go_num, below_drewN HB.out _⟩
      case measure => simp [intOf]; omega
    · obtain rfl : k = l.length := by omega
      go_wp2_with fail
      go_ret
      exact ⟨rfl, HB.out⟩

set_option maxHeartbeats 400000 in
theorem refAlike_calls (A1 A2 : Option Addr) (c1 c2 : Nat) (l : List Nat) (w : World) (hs : l.length ≤ 1073741824) (h1 : PlacesAt w A1 l) (h2 : PlacesAt w A2 l) :
    Calls Tryd.prog 30 #[.slice A1 l.length c1, .slice A2 l.length c2] w fun e w' => e = .returned (.bool true) ∧ Below w.heap.size w w' := by
  have H1 := Lib.hid h1
  have H2 := Lib.hid h2
  clear h1 h2
  go_enter Tryd.func30, Tryd.ntmps30
  go_wp2_with fail
  go_loopw [5] (fun i wr => ∃ k : Nat, k ≤ l.length ∧ i = .int .i64 k ∧ Below w.heap.size w wr) (fun i _ => l.length - (intOf i).toNat)
  case atStart => exact ⟨0, Nat.zero_le _, rfl, Below.refl _ _⟩
  case round =>
    obtain ⟨k, hk, rfl, hbw⟩ := hrel
    have HB := Lib.hid hbw
    clear hbw
    by_cases hlt : k < l.length
    · obtain ⟨q, hq⟩ : ∃ q, l[k]? = some q := ⟨_, List.getElem?_eq_getElem hlt⟩
      obtain ⟨a1, rfl, k1⟩ := H1.out.below HB.out k q hq
      obtain ⟨a2, rfl, m1⟩ := H2.out.below HB.out k q hq
      clear hq
      go_wp2_with fail
      go_quiet (fail)
      go_wp2_with fail
      go_roundw
      case rel => exact ⟨k + 1, by omega, by go_num, below_drewN HB.out _⟩
      case measure => simp [intOf]; omega
    · obtain rfl : k = l.length := by omega
      go_wp2_with fail
      go_ret
      exact ⟨rfl, HB.out⟩
end Go.Proofs.YtcnbfpmognijcaaDoor
