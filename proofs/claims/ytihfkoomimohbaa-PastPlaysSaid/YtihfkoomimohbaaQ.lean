/- The past as a plain machine (chapter 17): no program in sight. -/
import GoSem.Core.Utf8
namespace Past17

structure Pst (α : Type) where
  st : α
  most : Nat
  back : List (α × ByteArray)
  again : List (α × ByteArray)
  opn : Option (α × ByteArray × Bool)

variable {α : Type}

def keepL {β : Type} (most : Nat) (l : List β) : List β := if most < l.length then l.tail else l
def newP (s : α) (most : Nat) : Pst α := { st := s, most := most, back := [], again := [], opn := none }
def keepP (m : Pst α) (x : α × ByteArray) : Pst α := { m with back := keepL m.most (m.back ++ [x]) }
def closedN (m : Pst α) : Int := if m.opn.isSome then 171 else 0
def doP (m : Pst α) (s : α) (wd : ByteArray) : Pst α :=
  match m.opn with
  | some (a, b, _) => { m with again := [], opn := some (a, b, true), st := s }
  | none => { keepP { m with again := [] } (m.st, wd) with st := s }
def undoP (m : Pst α) : Pst α :=
  match m.opn, m.back.getLast? with
  | none, some x => { m with back := m.back.dropLast, again := m.again ++ [(m.st, x.2)], st := x.1 }
  | _, _ => m
def redoP (m : Pst α) : Pst α :=
  match m.opn, m.again.getLast? with
  | none, some x => { m with again := m.again.dropLast, back := m.back ++ [(m.st, x.2)], st := x.1 }
  | _, _ => m
/-- what Undo and Redo answer: the step (none: nothing), the error's number -/
def undoA (m : Pst α) : Option (α × ByteArray) × Int :=
  match m.opn with
  | some _ => (none, 171)
  | none => match m.back.getLast? with
    | none => (none, 170)
    | some x => (some x, 0)
def redoA (m : Pst α) : Option (α × ByteArray) × Int :=
  match m.opn with
  | some _ => (none, 171)
  | none => match m.again.getLast? with
    | none => (none, 170)
    | some x => (some x, 0)
def beginP (m : Pst α) (wd : ByteArray) : Pst α := if m.opn.isSome then m else { m with opn := some (m.st, wd, false) }
def endP (m : Pst α) : Pst α :=
  match m.opn with
  | none => m
  | some (s, wd, did) => if did then keepP { m with opn := none } (s, wd) else { m with opn := none }
def endN (m : Pst α) : Int := if m.opn.isSome then 0 else 171
def forgetP (m : Pst α) : Pst α := if m.opn.isSome then m else { m with back := [], again := [] }
def wordsP (l : List (α × ByteArray)) : List ByteArray := l.reverse.map (·.2)

/-- what holds of every past -/
structure Ok (m : Pst α) : Prop where
  mx : m.most ≤ 4096
  len : m.back.length + m.again.length ≤ m.most
  did : ∀ a b, m.opn = some (a, b, true) → m.again = []

theorem keepL_length {β : Type} (most : Nat) (l : List β) (h : l.length ≤ most + 1) : (keepL most l).length ≤ most := by
  unfold keepL; split
  · rw [List.length_tail]; omega
  · omega
theorem ok_new (s : α) {most : Nat} (h : most ≤ 4096) : Ok (newP s most) := ⟨h, by simp [newP], fun _ _ e => by cases e⟩
theorem ok_keep {m : Pst α} (h : Ok m) (ha : m.again = []) (x : α × ByteArray) : Ok (keepP m x) := by
  refine ⟨h.mx, ?_, h.did⟩
  have := h.len
  have hk := keepL_length m.most (m.back ++ [x]) (by rw [List.length_append, List.length_singleton]; omega)
  show (keepL m.most (m.back ++ [x])).length + m.again.length ≤ m.most
  rw [ha, List.length_nil]; omega
theorem ok_do {m : Pst α} (h : Ok m) (s : α) (wd : ByteArray) : Ok (doP m s wd) := by
  have h0 : Ok { m with again := ([] : List (α × ByteArray)) } := ⟨h.mx, by have := h.len; simp; omega, fun _ _ _ => rfl⟩
  unfold doP
  split
  · exact ⟨h.mx, by have := h.len; simp; omega, fun _ _ _ => rfl⟩
  · have := ok_keep h0 rfl (m.st, wd)
    exact ⟨this.mx, this.len, this.did⟩
theorem ok_undo {m : Pst α} (h : Ok m) : Ok (undoP m) := by
  unfold undoP
  split
  · rename_i x ho hx
    refine ⟨h.mx, ?_, fun a b e => by rw [ho] at e; cases e⟩
    have := h.len
    have hp : 0 < m.back.length := by
      rcases hm : m.back with _ | ⟨y, l⟩
      · rw [hm] at hx; cases hx
      · simp
    simp only [List.length_dropLast, List.length_append, List.length_singleton]; omega
  · exact h
theorem ok_redo {m : Pst α} (h : Ok m) : Ok (redoP m) := by
  unfold redoP
  split
  · rename_i x ho hx
    refine ⟨h.mx, ?_, fun a b e => by rw [ho] at e; cases e⟩
    have := h.len
    have hp : 0 < m.again.length := by
      rcases hm : m.again with _ | ⟨y, l⟩
      · rw [hm] at hx; cases hx
      · simp
    simp only [List.length_dropLast, List.length_append, List.length_singleton]; omega
  · exact h
theorem ok_begin {m : Pst α} (h : Ok m) (wd : ByteArray) : Ok (beginP m wd) := by
  unfold beginP; split
  · exact h
  · exact ⟨h.mx, h.len, fun a b e => by simp at e⟩
theorem ok_end {m : Pst α} (h : Ok m) : Ok (endP m) := by
  unfold endP
  split
  · exact h
  · rename_i s wd did ho
    have h0 : Ok { m with opn := none } := ⟨h.mx, h.len, fun _ _ e => by cases e⟩
    split
    · rename_i hd
      exact ok_keep h0 (h.did s wd (by rw [ho, hd])) (s, wd)
    · exact h0
theorem ok_forget {m : Pst α} (h : Ok m) : Ok (forgetP m) := by
  unfold forgetP; split
  · exact h
  · exact ⟨h.mx, by simp, fun _ _ _ => rfl⟩

theorem most_do (m : Pst α) (s : α) (wd : ByteArray) : (doP m s wd).most = m.most := by unfold doP; split <;> rfl
theorem most_undo (m : Pst α) : (undoP m).most = m.most := by unfold undoP; split <;> rfl
theorem most_redo (m : Pst α) : (redoP m).most = m.most := by unfold redoP; split <;> rfl
theorem most_begin (m : Pst α) (wd : ByteArray) : (beginP m wd).most = m.most := by unfold beginP; split <;> rfl
theorem most_end (m : Pst α) : (endP m).most = m.most := by unfold endP; split <;> (try split) <;> rfl
theorem most_forget (m : Pst α) : (forgetP m).most = m.most := by unfold forgetP; split <;> rfl
end Past17
