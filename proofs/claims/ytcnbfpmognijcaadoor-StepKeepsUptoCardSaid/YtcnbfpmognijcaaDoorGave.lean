/- What gone hands back, to be read on; the contract of the statements' same. -/
import Derived.Test.YtcnbfpmognijcaaDoorGone2
import Derived.Test.YtcnbfpmognijcaaDoorFixed
import Derived.Deep.QuietTactic
import Derived.BigQuiet
namespace Go.Proofs.YtcnbfpmognijcaaDoor
open Go.RowKit Go.Shelf Galley Go.Proofs.YtcnbfpmognijcaaDoorW.PrintWords

/-- two lists: places; the steps there -/
structure Gave (w : World) (s : ByteArray) (l : List Nat) (A1 A2 : Option Addr) : Prop where
  places : ∀ (j q : Nat), l[j]? = some q → ∃ g, A1 = some ⟨g, 0, none⟩ ∧ w.cell? ⟨g, j, none⟩ = some (.int .i64 q)
  steps : ∀ (j q : Nat), l[j]? = some q → ∃ g, A2 = some ⟨g, 0, none⟩ ∧ w.cell? ⟨g, j * 3, none⟩ = some (.int .i32 (rune s q)) ∧ w.cell? ⟨g, j * 3 + 1, none⟩ = some (.int .i64 (width s q)) ∧ w.cell? ⟨g, j * 3 + 2, none⟩ = some (.bool (whole s q))
theorem cell_stays {w w' : World} (hb : Below w.heap.size w w') {a : Addr} {v : Value} (h : w.cell? a = some v) : w'.cell? a = some v :=
  (hb.cell (p := a) (World.block_lt_of_cell? w _ h)).trans h
theorem Gave.below {w w' : World} {s : ByteArray} {l : List Nat} {A1 A2 : Option Addr} (h : Gave w s l A1 A2) (hb : Below w.heap.size w w') : Gave w' s l A1 A2 where
  places := fun j q hj => by obtain ⟨g, e, h1⟩ := h.places j q hj; exact ⟨g, e, cell_stays hb h1⟩
  steps := fun j q hj => by obtain ⟨g, e, h1, h2, h3⟩ := h.steps j q hj; exact ⟨g, e, cell_stays hb h1, cell_stays hb h2, cell_stays hb h3⟩

theorem own_cells {w : World} {base e size n : Nat} {v : Value} {xs : List Value} (h : w.ownsRow base e size v n xs) : ∃ A c, v = .slice A n c ∧ ∀ (j : Nat) (u : Value), xs[j]? = some u → ∃ g, A = some ⟨g, 0, none⟩ ∧ w.cell? ⟨g, j, none⟩ = some u := by
  obtain ⟨hl, h2⟩ := h
  rcases h2 with ⟨rfl, rfl⟩ | ⟨g, cap, cur, rfl, _, hh, _, _, _, hx⟩
  · refine ⟨none, 0, rfl, fun j u hj => ?_⟩
    have : xs = [] := List.eq_nil_of_length_eq_zero (by simpa using hl)
    subst this; simp at hj
  · refine ⟨_, cap, rfl, fun j u hj => ⟨g, rfl, ?_⟩⟩
    subst hx
    rw [List.getElem?_take] at hj
    split at hj
    · simp only [World.cell?, hh]
      rwa [Array.getElem?_toList] at hj
    · cases hj
theorem flat_get (s : ByteArray) : ∀ (l : List Nat) (j q : Nat), l[j]? = some q → (l.flatMap (stepCells s))[j * 3]? = some (.int .i32 (rune s q)) ∧ (l.flatMap (stepCells s))[j * 3 + 1]? = some (.int .i64 (width s q)) ∧ (l.flatMap (stepCells s))[j * 3 + 2]? = some (.bool (whole s q))
  | [], j, q, h => by simp at h
  | p :: l, 0, q, h => by simp at h; subst h; simp [stepCells]
  | p :: l, j + 1, q, h => by
    have := flat_get s l j q (by simpa using h)
    simp only [List.flatMap_cons, stepCells, List.cons_append, List.nil_append]
    rw [show (j + 1) * 3 = j * 3 + 1 + 1 + 1 by omega]
    simpa [stepCells] using this

theorem gave_of {w : World} {base base' : Nat} {s : ByteArray} {l : List Nat} {v1 v2 : Value} (h1 : w.ownsRow base 3 1 v1 l.length (l.map placeV)) (h2 : w.ownsRow base' 32 3 v2 l.length (l.flatMap (stepCells s))) :
    ∃ A1 c1 A2 c2, v1 = .slice A1 l.length c1 ∧ v2 = .slice A2 l.length c2 ∧ Gave w s l A1 A2 := by
  obtain ⟨A1, c1, e1, g1⟩ := own_cells h1
  obtain ⟨A2, c2, e2, g2⟩ := own_cells h2
  refine ⟨A1, c1, A2, c2, e1, e2, fun j q hj => g1 j _ (by rw [List.getElem?_map, hj]; rfl), fun j q hj => ?_⟩
  obtain ⟨f1, f2, f3⟩ := flat_get s l j q hj
  obtain ⟨g, e, k1⟩ := g2 _ _ f1
  obtain ⟨g', e', k2⟩ := g2 _ _ f2
  obtain ⟨g'', e'', k3⟩ := g2 _ _ f3
  subst e
  cases e'; cases e''
  exact ⟨g, rfl, k1, k2, k3⟩

/-- gone(step.All(b)) -/
theorem gone_all (B0 : Nat) (s : ByteArray) (hs : s.size ≤ 1073741824) (w : World) (hc : w.cell? ⟨B0, 0, none⟩ = some (.string s)) (hg : BadLies w) :
    Calls Tryd.prog 14 #[.func (.func 32) #[] #[.pointer (some ⟨B0, 0, none⟩)]] w fun e W' => ∃ A1 c1 A2 c2, e = .returned (.tuple #[.slice A1 (posL s).length c1, .slice A2 (posL s).length c2]) ∧ Gave W' s (posL s) A1 A2 ∧ Below w.heap.size w W' := by
  refine callsIn_wide.1 ((gone_in 32 #[.pointer (some ⟨B0, 0, none⟩)] (enters_of Tryd.func32 (by kernel_rfl) rfl) s w.heap.size (posL s) (by have := posL_length s; omega) _ w (all_stops B0 w.heap.size s w hc (World.block_lt_of_cell? w _ hc) hg hg.lt (Nat.le_refl _)) (Nat.le_refl _)).mono ?_)
  rintro e W' ⟨v1, v2, rfl, h1, h2, hb⟩
  obtain ⟨A1, c1, A2, c2, rfl, rfl, hG⟩ := gave_of h1 h2
  exact ⟨A1, c1, A2, c2, rfl, hG, hb⟩

theorem below_drewN {B : Nat} {w w1 : World} (h : Below B w w1) (n : Nat) : Below B w (w1.drewN n) := ⟨h.os, h.tape, h.output, h.size, h.block⟩
/-- a row of runes that is read -/
def Runs (w : World) (A : Option Addr) (xs : List Int) : Prop := Kd.C (Kd.int .i32) w A xs.length xs

set_option maxHeartbeats 400000 in
theorem same_calls (A1 A2 : Option Addr) (c1 c2 : Nat) (xs : List Int) (w : World) (hs : xs.length ≤ 1073741824) (h1 : Runs w A1 xs) (h2 : Runs w A2 xs) :
    Calls Tryd.prog 15 #[.slice A1 xs.length c1, .slice A2 xs.length c2] w fun e w' => e = .returned (.bool true) ∧ Below w.heap.size w w' := by
  have H1 := Lib.hid h1
  have H2 := Lib.hid h2
  clear h1 h2
  go_enter Tryd.func15, Tryd.ntmps15
  go_wp2_with fail
  go_loopw [13] (fun i wr => ∃ k : Nat, k ≤ xs.length ∧ i = .int .i64 k ∧ Below w.heap.size w wr) (fun i _ => xs.length - (intOf i).toNat)
  case atStart => exact ⟨0, Nat.zero_le _, rfl, Below.refl _ _⟩
  case round =>
    obtain ⟨k, hk, rfl, hbw⟩ := hrel
    have HB := Lib.hid hbw
    clear hbw
    by_cases hlt : k < xs.length
    · obtain ⟨a1, rfl, k1⟩ := Kd.at_int (Kd.C_below H1.out HB.out) (k : Int) (by omega) (by omega)
      obtain ⟨a2, rfl, k2⟩ := Kd.at_int (Kd.C_below H2.out HB.out) (k : Int) (by omega) (by omega)
      generalize rd xs k = x at k1 k2
      rw [Int.toNat_natCast] at k1 k2
      go_wp2_with fail
      go_quiet (fail)
      go_wp2_with fail
      go_roundw
      case rel => exact ⟨k + 1, by omega, by go_num, below_drewN HB.out _⟩
      case measure => simp [intOf]; omega
    · obtain rfl : k = xs.length := by omega
      go_wp2_with fail
      go_ret
      exact ⟨rfl, HB.out⟩
end Go.Proofs.YtcnbfpmognijcaaDoor
