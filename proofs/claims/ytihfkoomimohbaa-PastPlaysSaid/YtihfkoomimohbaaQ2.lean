/- The past as a plain machine, more: words; a Do behind an End; groups. -/
import Derived.Test.YtihfkoomimohbaaQ
namespace Past17
variable {α : Type}

theorem wordsP_length (l : List (α × ByteArray)) : (wordsP l).length = l.length := by simp [wordsP]
theorem wordsP_snoc (l : List (α × ByteArray)) (x : α × ByteArray) : wordsP (l ++ [x]) = x.2 :: wordsP l := by simp [wordsP]
theorem wordsP_tail (l : List (α × ByteArray)) : wordsP l.tail = (wordsP l).take (l.length - 1) := by
  cases l with
  | nil => rfl
  | cons x l => simp [wordsP]
theorem wordsP_keep (most : Nat) (l : List (α × ByteArray)) (h : l.length ≤ most + 1) : wordsP (keepL most l) = (wordsP l).take most := by
  unfold keepL
  split
  · rw [wordsP_tail, show l.length - 1 = most by omega]
  · rw [List.take_of_length_le (by rw [wordsP_length]; omega)]
theorem end_closed (m : Pst α) : (endP m).opn = none := by
  unfold endP
  split
  · assumption
  · split <;> rfl
theorem do_closed {m : Pst α} (h : m.opn = none) (s : α) (wd : ByteArray) : doP m s wd = { st := s, most := m.most, back := keepL m.most (m.back ++ [(m.st, wd)]), again := [], opn := none } := by
  unfold doP
  rw [h]
  simp [keepP]
theorem keepL_last {β : Type} (most : Nat) (l : List β) (x : β) (hm : 0 < most) : keepL most (l ++ [x]) = keepL most (l ++ [x]) ∧ ∃ l', keepL most (l ++ [x]) = l' ++ [x] := by
  refine ⟨rfl, ?_⟩
  unfold keepL
  split
  · rename_i h
    cases l with
    | nil => simp at h; omega
    | cons y l => exact ⟨l, rfl⟩
  · exact ⟨l, rfl⟩
theorem keepL_zero {β : Type} (x : β) : keepL 0 ([] ++ [x]) = [] := by simp [keepL]
end Past17
