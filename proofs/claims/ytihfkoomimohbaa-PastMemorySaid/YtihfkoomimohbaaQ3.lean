/- The past as a plain machine: a Do, its Undo, its Redo. -/
import Derived.Test.YtihfkoomimohbaaQ2
namespace Past17
variable {α : Type}

theorem do_words {m : Pst α} (hk : Ok m) (h : m.opn = none) (s : α) (wd : ByteArray) : wordsP (doP m s wd).back = (wd :: wordsP m.back).take m.most := by
  rw [do_closed h]
  show wordsP (keepL m.most (m.back ++ [(m.st, wd)])) = _
  rw [wordsP_keep _ _ (by have := hk.len; rw [List.length_append, List.length_singleton]; omega), wordsP_snoc]
theorem do_again {m : Pst α} (h : m.opn = none) (s : α) (wd : ByteArray) : (doP m s wd).again = [] := by rw [do_closed h]
theorem do_st {m : Pst α} (h : m.opn = none) (s : α) (wd : ByteArray) : (doP m s wd).st = s := by rw [do_closed h]
theorem do_opn {m : Pst α} (h : m.opn = none) (s : α) (wd : ByteArray) : (doP m s wd).opn = none := by rw [do_closed h]
theorem do_zero {m : Pst α} (hk : Ok m) (h : m.opn = none) (hm : m.most = 0) (s : α) (wd : ByteArray) : undoA (doP m s wd) = (none, 170) := by
  have hb : m.back = [] := List.eq_nil_of_length_eq_zero (by have := hk.len; omega)
  rw [do_closed h, hm, hb]
  simp [undoA, keepL]
theorem do_pos {m : Pst α} (h : m.opn = none) (hm : 0 < m.most) (s : α) (wd : ByteArray) :
    undoA (doP m s wd) = (some (m.st, wd), 0) ∧ redoA (undoP (doP m s wd)) = (some (s, wd), 0) := by
  obtain ⟨_, l', hl⟩ := keepL_last m.most m.back (m.st, wd) hm
  rw [do_closed h, hl]
  simp [undoA, undoP, redoA]
end Past17
