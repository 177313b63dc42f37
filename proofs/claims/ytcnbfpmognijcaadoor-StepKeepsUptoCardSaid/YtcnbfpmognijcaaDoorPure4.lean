/- Plain laws on the list of steps and runes (chapter 02): no program in sight. -/
import Derived.Test.YtcnbfpmognijcaaDoorPure3
import Derived.Laws.Cover4
import GoSem.Conv.StringToRunes
namespace Galley
open Go

/-- the places of the steps from p on, by at most so many -/
def posFrom (s : ByteArray) : Nat → Nat → List Nat
  | 0, _ => []
  | f + 1, p => if p < s.size then p :: posFrom s f (p + width s p) else []
/-- the places of all steps -/
def posL (s : ByteArray) : List Nat := posFrom s s.size 0
def runesL (s : ByteArray) : List Int := (posL s).map fun p => (rune s p : Int)
theorem posFrom_end (s : ByteArray) (f p : Nat) (h : ¬ p < s.size) : posFrom s f p = [] := by cases f <;> simp [posFrom, h]
theorem posFrom_fuel (s : ByteArray) : ∀ (f g p : Nat), s.size ≤ p + f → s.size ≤ p + g → posFrom s f p = posFrom s g p
  | 0, g, p, hf, _ => by rw [posFrom_end s g p (by omega)]; rfl
  | f + 1, 0, p, _, hg => by rw [posFrom_end s (f + 1) p (by omega)]; rfl
  | f + 1, g + 1, p, hf, hg => by
    unfold posFrom
    split
    · have := width_pos s p
      rw [posFrom_fuel s f g (p + width s p) (by omega) (by omega)]
    · rfl
/-- all steps from p on -/
def posAt (s : ByteArray) (p : Nat) : List Nat := posFrom s s.size p
theorem posAt_zero (s : ByteArray) : posAt s 0 = posL s := rfl
theorem posAt_step (s : ByteArray) (p : Nat) (h : p < s.size) : posAt s p = p :: posAt s (p + width s p) := by
  have := width_pos s p
  unfold posAt
  obtain ⟨n, hn⟩ : ∃ n, s.size = n + 1 := ⟨s.size - 1, by omega⟩
  have e : posFrom s (n + 1) p = p :: posFrom s n (p + width s p) := by
    show (if p < s.size then _ else _) = _
    rw [if_pos h]
  rw [posFrom_fuel s s.size (n + 1) p (by omega) (by omega), e, posFrom_fuel s n s.size _ (by omega) (by omega)]
theorem posAt_end (s : ByteArray) (p : Nat) (h : ¬ p < s.size) : posAt s p = [] := posFrom_end s _ p h
theorem posFrom_length (s : ByteArray) : ∀ (f p : Nat), (posFrom s f p).length ≤ s.size - p
  | 0, _ => by simp [posFrom]
  | f + 1, p => by
    unfold posFrom
    split
    · have := posFrom_length s f (p + width s p)
      have := width_pos s p
      rw [List.length_cons]; omega
    · simp
theorem posL_length (s : ByteArray) : (posL s).length ≤ s.size := by have := posFrom_length s s.size 0; unfold posL; omega
theorem runesL_length (s : ByteArray) : (runesL s).length = (posL s).length := by unfold runesL; rw [List.length_map]

theorem runesFrom_eq (s : ByteArray) : ∀ (f p : Nat) (acc : Array Value), Conv.runesFrom s f p acc = acc ++ ((posFrom s f p).map fun q => Value.int .i32 (rune s q : Int)).toArray
  | 0, _, acc => by simp [Conv.runesFrom, posFrom]
  | f + 1, p, acc => by
    unfold Conv.runesFrom posFrom
    split
    · rename_i h
      rw [decode_eq s p h]
      simp only
      rw [runesFrom_eq s f]
      apply Array.ext'
      simp
    · simp
theorem runesFrom_all (s : ByteArray) : Conv.runesFrom s s.size 0 #[] = ((runesL s).map (Value.int .i32)).toArray := by
  rw [runesFrom_eq]
  unfold runesL posL
  rw [List.map_map]
  simp

/-- does the language find the same bytes in the runes? -/
def validB (s : ByteArray) : Bool := (runesBytes (runesL s)).toList == s.toList
end Galley
