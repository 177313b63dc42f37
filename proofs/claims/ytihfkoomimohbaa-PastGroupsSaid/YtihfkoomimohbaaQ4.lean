/- The past as a plain machine: a group. -/
import Derived.Test.YtihfkoomimohbaaQ3
namespace Past17
variable {α : Type}

/-- the state within a group that began at m1: d: was there a Do? -/
structure InG (m1 m : Pst α) (wd : ByteArray) (d : Bool) : Prop where
  most : m.most = m1.most
  back : m.back = m1.back
  again : m.again = if d then [] else m1.again
  opn : m.opn = some (m1.st, wd, d)
  st : d = false → m.st = m1.st
theorem closed_out {m : Pst α} (h : m.opn = none) : closedN m = 0 := by simp [closedN, h]
theorem begin_in {m : Pst α} (h : m.opn = none) (wd : ByteArray) : InG m (beginP m wd) wd false := by
  constructor <;> simp [beginP, h]
theorem InG.closed {m1 m : Pst α} {wd : ByteArray} {d : Bool} (h : InG m1 m wd d) : closedN m = 171 := by simp [closedN, h.opn]
theorem InG.begin {m1 m : Pst α} {wd : ByteArray} {d : Bool} (h : InG m1 m wd d) (o : ByteArray) : beginP m o = m := by simp [beginP, h.opn]
theorem InG.forget {m1 m : Pst α} {wd : ByteArray} {d : Bool} (h : InG m1 m wd d) : forgetP m = m := by simp [forgetP, h.opn]
theorem InG.undo {m1 m : Pst α} {wd : ByteArray} {d : Bool} (h : InG m1 m wd d) : undoP m = m := by simp [undoP, h.opn]
theorem InG.undoA {m1 m : Pst α} {wd : ByteArray} {d : Bool} (h : InG m1 m wd d) : undoA m = (none, 171) := by simp [Past17.undoA, h.opn]
theorem InG.doP {m1 m : Pst α} {wd : ByteArray} {d : Bool} (h : InG m1 m wd d) (s : α) (o : ByteArray) : InG m1 (doP m s o) wd true ∧ (Past17.doP m s o).st = s := by
  unfold Past17.doP
  rw [h.opn]
  exact ⟨⟨h.most, h.back, rfl, rfl, fun e => by cases e⟩, rfl⟩
theorem InG.endN {m1 m : Pst α} {wd : ByteArray} {d : Bool} (h : InG m1 m wd d) : endN m = 0 := by simp [Past17.endN, h.opn]
theorem endN_closed {m : Pst α} (h : m.opn = none) : endN m = 171 := by simp [endN, h]
theorem endP_closed {m : Pst α} (h : m.opn = none) : endP m = m := by simp [endP, h]
theorem InG.ends {m1 m : Pst α} {wd : ByteArray} (h : InG m1 m wd false) (ho : m1.opn = none) : endP m = m1 := by
  obtain ⟨s, mo, b, a, o⟩ := m
  obtain ⟨s1, mo1, b1, a1, o1⟩ := m1
  have h1 := h.most
  have h2 := h.back
  have h3 := h.again
  have h4 := h.opn
  have h5 := h.st rfl
  simp only [Bool.false_eq_true, if_false] at h1 h2 h3 h4 h5 ho
  subst h1 h2 h3 h4 h5 ho
  rfl
theorem InG.endsDid {m1 m : Pst α} {wd : ByteArray} (h : InG m1 m wd true) : endP m = { st := m.st, most := m1.most, back := keepL m1.most (m1.back ++ [(m1.st, wd)]), again := [], opn := none } := by
  unfold endP
  rw [h.opn]
  have h3 := h.again
  simp only [if_true] at h3
  simp [keepP, h.most, h.back, h3]
theorem group_words {m1 m : Pst α} {wd : ByteArray} (hk : Ok m1) (h : InG m1 m wd true) : wordsP (endP m).back = (wd :: wordsP m1.back).take m1.most := by
  rw [h.endsDid]
  show wordsP (keepL m1.most (m1.back ++ [(m1.st, wd)])) = _
  rw [wordsP_keep _ _ (by have := hk.len; rw [List.length_append, List.length_singleton]; omega), wordsP_snoc]
theorem group_again {m1 m : Pst α} {wd : ByteArray} (h : InG m1 m wd true) : (endP m).again = [] := by rw [h.endsDid]
theorem group_zero {m1 m : Pst α} {wd : ByteArray} (hk : Ok m1) (h : InG m1 m wd true) (hm : m1.most = 0) : undoA (endP m) = (none, 170) := by
  have hb : m1.back = [] := List.eq_nil_of_length_eq_zero (by have := hk.len; omega)
  rw [h.endsDid, hm, hb]
  simp [Past17.undoA, keepL]
theorem group_pos {m1 m : Pst α} {wd : ByteArray} (h : InG m1 m wd true) (hm : 0 < m1.most) : undoA (endP m) = (some (m1.st, wd), 0) := by
  obtain ⟨_, l', hl⟩ := keepL_last m1.most m1.back (m1.st, wd) hm
  rw [h.endsDid, hl]
  simp [Past17.undoA]
end Past17
