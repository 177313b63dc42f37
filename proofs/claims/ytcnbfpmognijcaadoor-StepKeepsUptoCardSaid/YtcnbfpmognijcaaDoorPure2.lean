/- Plain laws on bytes, encodings, steps and edges (chapter 02): no program in sight. -/
import Derived.Test.YtcnbfpmognijcaaDoorPure
import Derived.Laws.Runes
import Derived.Lib.Strings
namespace Galley
open Go

theorem bt_get (s : ByteArray) (i : Nat) (h : i < s.size) : bt s i = (s[i]'h).toNat := by
  unfold bt
  have e : s.get! i = s[i]'h := by
    show s.data[i]! = _
    rw [getElem!_pos s.data i h]; rfl
  rw [e]
theorem bt_out (s : ByteArray) (i : Nat) (h : ¬ i < s.size) : bt s i = 0 := by
  unfold bt
  have e : s.get! i = 0 := by
    show s.data[i]! = _
    rw [getElem!_neg s.data i h]; rfl
  rw [e]; rfl

/-- rune and length of the encoding that begins at p; the length is 0 if none does (then the rune is the replacement) -/
def rl (s : ByteArray) (p : Nat) : Nat × Nat := stepN (s.size - p) (bt s p) (bt s (p + 1)) (bt s (p + 2)) (bt s (p + 3))
def long (s : ByteArray) (p : Nat) : Nat := (rl s p).2
def rune (s : ByteArray) (p : Nat) : Nat := (rl s p).1
def width (s : ByteArray) (p : Nat) : Nat := if long s p = 0 then 1 else long s p
def whole (s : ByteArray) (p : Nat) : Bool := decide (long s p ≠ 0)

theorem decode_eq (s : ByteArray) (p : Nat) (h : p < s.size) : Utf8.decode s p = (rune s p, width s p) := by
  rw [Lib.decode_at]
  exact decodeN_stepN _ _ _ _ _ (by omega) (bt_lt s p) (bt_lt s (p + 1)) (bt_lt s (p + 2)) (bt_lt s (p + 3))

theorem extract_size (s : ByteArray) (a b : Nat) (h : b ≤ s.size) : (s.extract a b).size = b - a := by
  simp [ByteArray.size_extract]; omega
theorem bt_extract (s : ByteArray) (a b i : Nat) (h : b ≤ s.size) : bt (s.extract a b) i = if i < b - a then bt s (a + i) else 0 := by
  split
  · rename_i hi
    have h1 : i < (s.extract a b).size := by rw [extract_size s a b h]; exact hi
    rw [bt_get _ _ h1, bt_get s (a + i) (by omega)]
    congr 1
    simp [ByteArray.getElem_extract]
  · rename_i hi
    exact bt_out _ _ (by rw [extract_size s a b h]; omega)

theorem stepN_cut (n m x y z u y' z' u' : Nat) (h0 : 0 < n ↔ 0 < m) (h1 : 1 < n ↔ 1 < m) (h2 : 2 < n ↔ 2 < m) (h3 : 3 < n ↔ 3 < m)
    (hy : 1 < n → y = y') (hz : 2 < n → z = z') (hu : 3 < n → u = u') : stepN n x y z u = stepN m x y' z' u' := by
  unfold stepN
  by_cases c1 : 1 < n
  · obtain rfl := hy c1
    by_cases c2 : 2 < n
    · obtain rfl := hz c2
      by_cases c3 : 3 < n
      · obtain rfl := hu c3
        simp only [h0, h1, h2, h3]
      · have c3' : ¬ 3 < m := by omega
        simp only [c3, c3', h0, h1, h2, false_and, if_false]
    · have c2' : ¬ 2 < m := by omega
      have c3 : ¬ 3 < n := by omega
      have c3' : ¬ 3 < m := by omega
      simp only [c2, c2', c3, c3', h0, h1, false_and, if_false]
  · have c1' : ¬ 1 < m := by omega
    have c2 : ¬ 2 < n := by omega
    have c2' : ¬ 2 < m := by omega
    have c3 : ¬ 3 < n := by omega
    have c3' : ¬ 3 < m := by omega
    simp only [c1, c1', c2, c2', c3, c3', h0, false_and, if_false]

/-- what begins a cut that reaches four bytes on, or to the end, is what begins there -/
theorem rl_extract (s : ByteArray) (p q : Nat) (hq : q ≤ s.size) (h : min (p + 4) s.size ≤ q) : rl (s.extract p q) 0 = rl s p := by
  unfold rl
  simp only [bt_extract s p q _ hq, extract_size s p q hq, Nat.sub_zero, Nat.zero_add, Nat.add_zero]
  by_cases hp : p < q
  · rw [if_pos (show 0 < q - p by omega)]
    refine stepN_cut _ _ _ _ _ _ _ _ _ (by omega) (by omega) (by omega) (by omega) (fun h => ?_) (fun h => ?_) (fun h => ?_)
    all_goals rw [if_pos (by omega)]
  · have e1 : q - p = 0 := by omega
    have e2 : s.size - p = 0 := by omega
    rw [e1, e2]
    simp [stepN]

theorem long_le (s : ByteArray) (p : Nat) : long s p ≤ 4 := by
  unfold long rl stepN
  repeat' split
  all_goals simp
theorem width_pos (s : ByteArray) (p : Nat) : 1 ≤ width s p := by unfold width; split <;> omega
theorem width_le (s : ByteArray) (p : Nat) : width s p ≤ 4 := by have := long_le s p; unfold width; split <;> omega
theorem long_end (s : ByteArray) (p : Nat) : p + long s p ≤ s.size ∨ long s p = 0 := by
  unfold long rl stepN
  repeat' split
  all_goals simp
  all_goals omega
theorem width_end (s : ByteArray) (p : Nat) (h : p < s.size) : p + width s p ≤ s.size := by
  have := long_end s p
  unfold width; split <;> omega
theorem stepN_cases (n x y z u : Nat) :
    (stepN n x y z u = (x, 1) ∧ 0 < n ∧ x < 128) ∨
    (stepN n x y z u = (x % 32 * 64 + y % 64, 2) ∧ 1 < n ∧ 194 ≤ x ∧ x ≤ 223 ∧ 128 ≤ y ∧ y ≤ 191) ∨
    (stepN n x y z u = (x % 16 * 4096 + y % 64 * 64 + z % 64, 3) ∧ 2 < n ∧ 128 ≤ z ∧ z ≤ 191 ∧ ((x = 224 ∧ 160 ≤ y ∧ y ≤ 191) ∨ (225 ≤ x ∧ x ≤ 236 ∧ 128 ≤ y ∧ y ≤ 191) ∨ (x = 237 ∧ 128 ≤ y ∧ y ≤ 159) ∨ (238 ≤ x ∧ x ≤ 239 ∧ 128 ≤ y ∧ y ≤ 191))) ∨
    (stepN n x y z u = (x % 8 * 262144 + y % 64 * 4096 + z % 64 * 64 + u % 64, 4) ∧ 3 < n ∧ 128 ≤ z ∧ z ≤ 191 ∧ 128 ≤ u ∧ u ≤ 191 ∧ ((x = 240 ∧ 144 ≤ y ∧ y ≤ 191) ∨ (241 ≤ x ∧ x ≤ 243 ∧ 128 ≤ y ∧ y ≤ 191) ∨ (x = 244 ∧ 128 ≤ y ∧ y ≤ 143))) ∨
    stepN n x y z u = (65533, 0) := by
  by_cases c1 : 0 < n ∧ x < 128
  · exact .inl ⟨by unfold stepN; rw [if_pos c1], c1⟩
  · by_cases c2 : 1 < n ∧ 194 ≤ x ∧ x ≤ 223 ∧ 128 ≤ y ∧ y ≤ 191
    · exact .inr (.inl ⟨by unfold stepN; rw [if_neg c1, if_pos c2], c2⟩)
    · by_cases c3 : 2 < n ∧ 128 ≤ z ∧ z ≤ 191 ∧ ((x = 224 ∧ 160 ≤ y ∧ y ≤ 191) ∨ (225 ≤ x ∧ x ≤ 236 ∧ 128 ≤ y ∧ y ≤ 191) ∨ (x = 237 ∧ 128 ≤ y ∧ y ≤ 159) ∨ (238 ≤ x ∧ x ≤ 239 ∧ 128 ≤ y ∧ y ≤ 191))
      · exact .inr (.inr (.inl ⟨by unfold stepN; rw [if_neg c1, if_neg c2, if_pos c3], c3⟩))
      · by_cases c4 : 3 < n ∧ 128 ≤ z ∧ z ≤ 191 ∧ 128 ≤ u ∧ u ≤ 191 ∧ ((x = 240 ∧ 144 ≤ y ∧ y ≤ 191) ∨ (241 ≤ x ∧ x ≤ 243 ∧ 128 ≤ y ∧ y ≤ 191) ∨ (x = 244 ∧ 128 ≤ y ∧ y ≤ 143))
        · exact .inr (.inr (.inr (.inl ⟨by unfold stepN; rw [if_neg c1, if_neg c2, if_neg c3, if_pos c4], c4⟩)))
        · exact .inr (.inr (.inr (.inr (by unfold stepN; rw [if_neg c1, if_neg c2, if_neg c3, if_neg c4]))))
theorem rune_none (s : ByteArray) (p : Nat) (h : long s p = 0) : rune s p = 65533 := by
  unfold long rl at h
  unfold rune rl
  rcases stepN_cases (s.size - p) (bt s p) (bt s (p + 1)) (bt s (p + 2)) (bt s (p + 3)) with ⟨e, _⟩ | ⟨e, _⟩ | ⟨e, _⟩ | ⟨e, _⟩ | e
  all_goals rw [e] at h ⊢
  all_goals simp at h ⊢
theorem rune_le (s : ByteArray) (p : Nat) : rune s p ≤ 1114111 := by
  have h0 := bt_lt s p
  unfold rune rl stepN
  repeat' split
  all_goals simp only
  all_goals omega

/-- the replacement rune's encoding stands at the beginning -/
def hasP (s : ByteArray) : Bool := decide (3 ≤ s.size ∧ bt s 0 = 239 ∧ bt s 1 = 191 ∧ bt s 2 = 189)
theorem rune_repl (s : ByteArray) (h : long s 0 ≠ 0) (hr : rune s 0 = 65533) : hasP s = true := by
  have h0 := bt_lt s 0
  unfold hasP
  rw [decide_eq_true_eq]
  unfold long rl at h
  unfold rune rl at hr
  rcases stepN_cases (s.size - 0) (bt s 0) (bt s (0 + 1)) (bt s (0 + 2)) (bt s (0 + 3)) with ⟨e, c⟩ | ⟨e, c⟩ | ⟨e, c⟩ | ⟨e, c⟩ | e
  all_goals rw [e] at h hr
  all_goals simp only [Nat.sub_zero, Nat.zero_add] at *
  · omega
  · omega
  · omega
  · omega
  · simp at h
theorem repl_long (s : ByteArray) (h : hasP s = true) : long s 0 = 3 := by
  unfold hasP at h
  rw [decide_eq_true_eq] at h
  obtain ⟨h3, h0, h1, h2⟩ := h
  unfold long rl stepN
  simp only [Nat.sub_zero, Nat.zero_add, h0, h1, h2]
  rw [if_neg (by omega), if_neg (by omega), if_pos (by omega)]

theorem encode_size (r : Nat) (hv : Utf8.valid (r : Int) = true) : (Utf8.encode (r : Int)).size = if r < 128 then 1 else if r < 2048 then 2 else if r < 65536 then 3 else 4 := by
  unfold Utf8.encode
  simp only [hv, if_true, Int.toNat_natCast]
  split
  · rfl
  · split
    · rfl
    · split <;> rfl
theorem rune_size (s : ByteArray) (p : Nat) (h : long s p ≠ 0) : Utf8.valid (rune s p : Int) = true ∧ (Utf8.encode (rune s p : Int)).size = long s p := by
  have h0 := bt_lt s p
  have key : ((rune s p < 55296) ∨ (57344 ≤ rune s p ∧ rune s p ≤ 1114111)) ∧ (if rune s p < 128 then 1 else if rune s p < 2048 then 2 else if rune s p < 65536 then 3 else 4) = long s p := by
    revert h
    unfold rune long rl
    rcases stepN_cases (s.size - p) (bt s p) (bt s (p + 1)) (bt s (p + 2)) (bt s (p + 3)) with ⟨e, c⟩ | ⟨e, c⟩ | ⟨e, c⟩ | ⟨e, c⟩ | e
    all_goals rw [e]
    all_goals intro h
    all_goals simp only at h ⊢
    · exact ⟨by omega, by rw [if_pos (by omega)]⟩
    · exact ⟨by omega, by rw [if_neg (by omega), if_pos (by omega)]⟩
    · exact ⟨by omega, by rw [if_neg (by omega), if_neg (by omega), if_pos (by omega)]⟩
    · exact ⟨by omega, by rw [if_neg (by omega), if_neg (by omega), if_neg (by omega)]⟩
    · exact absurd rfl h
  have hv : Utf8.valid (rune s p : Int) = true := by
    rw [validRune_eq]; unfold validRune; rw [decide_eq_true_eq]; omega
  exact ⟨hv, by rw [encode_size _ hv]; exact key.2⟩

theorem hasP_list (s : ByteArray) (h : 3 ≤ s.size) : ((s.extract 0 3).toList == [239, 191, 189]) = hasP s := by
  have hd : (s.extract 0 3).toList = [s[0], s[1], s[2]] := by
    rw [ByteArray.toList_eq]
    apply List.ext_getElem
    · have := extract_size s 0 3 h
      rw [Array.length_toList]; exact this
    · intro i h1 h2
      have h3 : i < 3 := h2
      have h4 : i < (s.extract 0 3).size := by rw [extract_size s 0 3 h]; exact h3
      have e : (s.extract 0 3).data.toList[i] = (s.extract 0 3)[i] := rfl
      rw [e, ByteArray.getElem_extract]
      have : i = 0 ∨ i = 1 ∨ i = 2 := by omega
      rcases this with rfl | rfl | rfl
      all_goals rfl
  rw [hd]
  unfold hasP
  rw [bt_get s 0 (by omega), bt_get s 1 (by omega), bt_get s 2 (by omega)]
  rw [Bool.eq_iff_iff]
  simp only [beq_iff_eq, List.cons.injEq, and_true, decide_eq_true_eq]
  constructor
  · rintro ⟨h0, h1, h2⟩
    rw [h0, h1, h2]; exact ⟨h, rfl, rfl, rfl⟩
  · rintro ⟨_, h0, h1, h2⟩
    exact ⟨UInt8.toNat_inj.1 h0, UInt8.toNat_inj.1 h1, UInt8.toNat_inj.1 h2⟩
theorem hasP_short (s : ByteArray) (h : s.size < 3) : hasP s = false := by
  unfold hasP; rw [decide_eq_false_iff_not]; omega
end Galley
