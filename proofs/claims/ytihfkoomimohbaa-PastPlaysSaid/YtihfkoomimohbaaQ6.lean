/- The past as a plain machine: states of another kind; a script's steps. -/
import Derived.Test.YtihfkoomimohbaaQ2
namespace Past17
variable {α : Type}

def mapL (f : Int → α) (l : List (Int × ByteArray)) : List (α × ByteArray) := l.map fun x => (f x.1, x.2)
def mapO (f : Int → α) : Option (Int × ByteArray × Bool) → Option (α × ByteArray × Bool)
  | none => none
  | some x => some (f x.1, x.2)
def mapP (f : Int → α) (m : Pst Int) : Pst α := { st := f m.st, most := m.most, back := mapL f m.back, again := mapL f m.again, opn := mapO f m.opn }
theorem mapL_id (l : List (Int × ByteArray)) : mapL id l = l := by simp [mapL]
theorem mapP_id (m : Pst Int) : mapP id m = m := by
  obtain ⟨a, b, c, d, e⟩ := m
  simp only [mapP, mapL_id]
  cases e <;> rfl
theorem mapL_append (f : Int → α) (l k : List (Int × ByteArray)) : mapL f (l ++ k) = mapL f l ++ mapL f k := by simp [mapL]
theorem mapL_keep (f : Int → α) (n : Nat) (l : List (Int × ByteArray)) : mapL f (keepL n l) = keepL n (mapL f l) := by
  unfold keepL mapL
  rw [List.length_map]
  split
  · rw [List.map_tail]
  · rfl
theorem mapL_words (f : Int → α) (l : List (Int × ByteArray)) : wordsP (mapL f l) = wordsP l := by simp [wordsP, mapL, Function.comp_def]
theorem mapL_last (f : Int → α) (l : List (Int × ByteArray)) : (mapL f l).getLast? = l.getLast?.map fun x => (f x.1, x.2) := by simp [mapL, List.getLast?_map]
theorem mapL_less (f : Int → α) (l : List (Int × ByteArray)) : (mapL f l).dropLast = mapL f l.dropLast := by simp [mapL, List.map_dropLast]
theorem map_new (f : Int → α) (s : Int) (n : Nat) : mapP f (newP s n) = newP (f s) n := rfl
theorem map_closed (f : Int → α) (m : Pst Int) : closedN (mapP f m) = closedN m := by unfold closedN mapP; cases m.opn <;> rfl
theorem map_endN (f : Int → α) (m : Pst Int) : endN (mapP f m) = endN m := by unfold endN mapP; cases m.opn <;> rfl
theorem map_do (f : Int → α) (m : Pst Int) (s : Int) (wd : ByteArray) : doP (mapP f m) (f s) wd = mapP f (doP m s wd) := by
  obtain ⟨a, b, c, d, e⟩ := m
  cases e with
  | none => simp [doP, mapP, mapO, keepP, mapL_keep, mapL_append]; simp [mapL]
  | some x => simp [doP, mapP, mapO]; simp [mapL]
theorem map_undo (f : Int → α) (m : Pst Int) : undoP (mapP f m) = mapP f (undoP m) := by
  obtain ⟨a, b, c, d, e⟩ := m
  cases e with
  | none =>
    cases h : c.getLast? with
    | none => simp [undoP, mapP, mapO, mapL_last, h]
    | some x => simp [undoP, mapP, mapO, mapL_last, h, mapL_less, mapL_append]; simp [mapL]
  | some x => simp [undoP, mapP, mapO]
theorem map_redo (f : Int → α) (m : Pst Int) : redoP (mapP f m) = mapP f (redoP m) := by
  obtain ⟨a, b, c, d, e⟩ := m
  cases e with
  | none =>
    cases h : d.getLast? with
    | none => simp [redoP, mapP, mapO, mapL_last, h]
    | some x => simp [redoP, mapP, mapO, mapL_last, h, mapL_less, mapL_append]; simp [mapL]
  | some x => simp [redoP, mapP, mapO]
theorem map_undoA (f : Int → α) (m : Pst Int) : undoA (mapP f m) = ((undoA m).1.map (fun x => (f x.1, x.2)), (undoA m).2) := by
  obtain ⟨a, b, c, d, e⟩ := m
  cases e with
  | none => cases h : c.getLast? <;> simp [undoA, mapP, mapO, mapL_last, h]
  | some x => simp [undoA, mapP, mapO]
theorem map_redoA (f : Int → α) (m : Pst Int) : redoA (mapP f m) = ((redoA m).1.map (fun x => (f x.1, x.2)), (redoA m).2) := by
  obtain ⟨a, b, c, d, e⟩ := m
  cases e with
  | none => cases h : d.getLast? <;> simp [redoA, mapP, mapO, mapL_last, h]
  | some x => simp [redoA, mapP, mapO]
theorem map_begin (f : Int → α) (m : Pst Int) (wd : ByteArray) : beginP (mapP f m) wd = mapP f (beginP m wd) := by
  obtain ⟨a, b, c, d, e⟩ := m
  cases e <;> simp [beginP, mapP, mapO]
theorem map_end (f : Int → α) (m : Pst Int) : endP (mapP f m) = mapP f (endP m) := by
  obtain ⟨a, b, c, d, e⟩ := m
  cases e with
  | none => simp [endP, mapP, mapO]
  | some x =>
    obtain ⟨s, wd, did⟩ := x
    cases did
    · simp [endP, mapP, mapO]
    · simp [endP, mapP, mapO, keepP, mapL_keep, mapL_append]; simp [mapL]
theorem map_forget (f : Int → α) (m : Pst Int) : forgetP (mapP f m) = mapP f (forgetP m) := by
  obtain ⟨a, b, c, d, e⟩ := m
  cases e <;> simp [forgetP, mapP, mapO] <;> simp [mapL]
/-- what Undo answers: a step just if the number is none -/
theorem undoA_cases {β : Type} (m : Pst β) : (∃ x, undoA m = (some x, 0)) ∨ ∃ n : Int, undoA m = (none, n) ∧ n ≠ 0 := by
  unfold undoA
  split
  · exact .inr ⟨171, rfl, by decide⟩
  · split
    · exact .inr ⟨170, rfl, by decide⟩
    · exact .inl ⟨_, rfl⟩
theorem redoA_cases {β : Type} (m : Pst β) : (∃ x, redoA m = (some x, 0)) ∨ ∃ n : Int, redoA m = (none, n) ∧ n ≠ 0 := by
  unfold redoA
  split
  · exact .inr ⟨171, rfl, by decide⟩
  · split
    · exact .inr ⟨170, rfl, by decide⟩
    · exact .inl ⟨_, rfl⟩
end Past17
