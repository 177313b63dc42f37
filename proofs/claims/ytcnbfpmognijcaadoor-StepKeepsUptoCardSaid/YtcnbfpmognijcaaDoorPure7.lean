/- Plain law: the runes give the bytes again just if all steps are whole (chapter 02): no program in sight. -/
import Derived.Test.YtcnbfpmognijcaaDoorLocalPure
import Derived.Test.YtcnbfpmognijcaaDoorPure6
namespace Galley
open Go

theorem runesBytes_fold (ns : List Int) : ∀ a : ByteArray, ns.foldl (fun r n => r ++ Utf8.encode n) a = a ++ runesBytes ns := by
  unfold runesBytes
  induction ns with
  | nil => intro a; simp
  | cons n ns ih => intro a; simp only [List.foldl_cons]; rw [ih (a ++ Utf8.encode n), ih (ByteArray.empty ++ Utf8.encode n)]; simp [ByteArray.append_assoc]
theorem runesBytes_cons (n : Int) (ns : List Int) : runesBytes (n :: ns) = Utf8.encode n ++ runesBytes ns := by
  have := runesBytes_fold ns (Utf8.encode n)
  unfold runesBytes
  simp only [List.foldl_cons]
  rw [show (ByteArray.empty ++ Utf8.encode n) = Utf8.encode n by simp]
  exact this

theorem enc_bt (s : ByteArray) (p : Nat) (h : long s p ≠ 0) (i : Nat) (hi : i < long s p) : bt (Utf8.encode (rune s p : Int)) i = bt s (p + i) := by
  obtain ⟨hv, hsz⟩ := rune_size s p h
  have h0 := bt_lt s p
  have h1 := bt_lt s (p + 1)
  have h2 := bt_lt s (p + 2)
  have h3 := bt_lt s (p + 3)
  have hb : ∀ (l : Array UInt8) (j : Nat) (hj : j < l.size), bt ⟨l⟩ j = (l[j]'hj).toNat := fun l j hj => bt_get ⟨l⟩ j hj
  have hof : ∀ n, (UInt8.ofNat n).toNat = n % 256 := fun n => by simp
  unfold Utf8.encode
  rw [if_pos hv]
  rw [Int.toNat_natCast]
  unfold rune long rl at *
  rcases stepN_cases (s.size - p) (bt s p) (bt s (p + 1)) (bt s (p + 2)) (bt s (p + 3)) with ⟨e, c⟩ | ⟨e, c⟩ | ⟨e, c⟩ | ⟨e, c⟩ | e
  all_goals rw [e] at h hi ⊢
  all_goals simp only at h hi ⊢
  · rw [if_pos (by omega)]
    obtain rfl : i = 0 := by omega
    rw [hb _ _ (by simp)]
    simp only [List.getElem_toArray, List.getElem_cons_zero, hof, Nat.add_zero]; omega
  · rw [if_neg (by omega), if_pos (by omega)]
    obtain rfl | rfl : i = 0 ∨ i = 1 := by omega
    all_goals rw [hb _ _ (by simp)]
    all_goals simp only [List.getElem_toArray, List.getElem_cons_zero, List.getElem_cons_succ, hof, Nat.add_zero]
    all_goals omega
  · rw [if_neg (by omega), if_neg (by omega), if_pos (by omega)]
    obtain rfl | rfl | rfl : i = 0 ∨ i = 1 ∨ i = 2 := by omega
    all_goals rw [hb _ _ (by simp)]
    all_goals simp only [List.getElem_toArray, List.getElem_cons_zero, List.getElem_cons_succ, hof, Nat.add_zero]
    all_goals omega
  · rw [if_neg (by omega), if_neg (by omega), if_neg (by omega)]
    obtain rfl | rfl | rfl | rfl : i = 0 ∨ i = 1 ∨ i = 2 ∨ i = 3 := by omega
    all_goals rw [hb _ _ (by simp)]
    all_goals simp only [List.getElem_toArray, List.getElem_cons_zero, List.getElem_cons_succ, hof, Nat.add_zero]
    all_goals omega
  · exact absurd rfl h

/-- the bytes of the runes from p on -/
def backR (s : ByteArray) (p : Nat) : ByteArray := runesBytes ((posAt s p).map fun q => (rune s q : Int))
def BackEq (s : ByteArray) (p : Nat) : Prop := (backR s p).size = s.size - p ∧ ∀ i, i < s.size - p → bt (backR s p) i = bt s (p + i)
theorem backR_step (s : ByteArray) (p : Nat) (h : p < s.size) : backR s p = Utf8.encode (rune s p : Int) ++ backR s (p + width s p) := by
  unfold backR
  rw [posAt_step s p h, List.map_cons, runesBytes_cons]
theorem back_all (s : ByteArray) : ∀ (f p : Nat), s.size ≤ p + f → p ≤ s.size → (BackEq s p ↔ (posAt s p).all (whole s) = true)
  | 0, p, hf, hp => by
    obtain rfl : p = s.size := by omega
    rw [posAt_end s _ (Nat.lt_irrefl _)]
    unfold BackEq backR
    rw [posAt_end s _ (Nat.lt_irrefl _)]
    simp [runesBytes]
  | f + 1, p, hf, hp => by
    by_cases h : p < s.size
    · have hw := width_pos s p
      have hwe := width_end s p h
      have ih := back_all s f (p + width s p) (by omega) hwe
      rw [posAt_step s p h, List.all_cons]
      by_cases hl : long s p = 0
      · have hwh : whole s p = false := by unfold whole; rw [hl]; rfl
        rw [hwh, Bool.false_and]
        refine ⟨fun hb => ?_, fun hb => by cases hb⟩
        exfalso
        obtain ⟨b1, b2⟩ := hb
        have hr := rune_none s p hl
        rw [backR_step s p h, hr] at b1 b2
        have hE : (Utf8.encode ((65533 : Nat) : Int)).size = 3 := by decide
        have e0 : bt (Utf8.encode ((65533 : Nat) : Int)) 0 = 239 := by decide +kernel
        have e1 : bt (Utf8.encode ((65533 : Nat) : Int)) 1 = 191 := by decide +kernel
        have e2 : bt (Utf8.encode ((65533 : Nat) : Int)) 2 = 189 := by decide +kernel
        rw [append_size, hE] at b1
        have g0 := b2 0 (by omega)
        have g1 := b2 1 (by omega)
        have g2 := b2 2 (by omega)
        rw [bt_append_left _ _ _ (by rw [hE]; omega)] at g0 g1 g2
        rw [e0] at g0
        rw [e1] at g1
        rw [e2] at g2
        unfold long rl stepN at hl
        rw [Nat.add_zero] at g0
        rw [← g0, ← g1, ← g2] at hl
        rw [if_neg (by omega), if_neg (by omega), if_pos (by omega)] at hl
        cases hl
      · have hwh : whole s p = true := by unfold whole; simp [hl]
        have hwl : width s p = long s p := by unfold width; rw [if_neg hl]
        obtain ⟨_, hsz⟩ := rune_size s p hl
        rw [hwh, Bool.true_and, ← ih]
        unfold BackEq
        rw [backR_step s p h, append_size, hsz, hwl]
        constructor
        · rintro ⟨b1, b2⟩
          refine ⟨by omega, fun i hi => ?_⟩
          have := b2 (long s p + i) (by omega)
          have e : bt (Utf8.encode (rune s p : Int) ++ backR s (p + long s p)) (long s p + i) = bt (backR s (p + long s p)) i := by
            have := bt_append_right (Utf8.encode (rune s p : Int)) (backR s (p + long s p)) i (by omega)
            rwa [hsz] at this
          rw [← e, this, show p + (long s p + i) = p + long s p + i by omega]
        · rintro ⟨b1, b2⟩
          refine ⟨by omega, fun i hi => ?_⟩
          by_cases hil : i < long s p
          · rw [bt_append_left _ _ _ (by rw [hsz]; exact hil)]
            exact enc_bt s p hl i hil
          · obtain ⟨j, rfl⟩ : ∃ j, i = long s p + j := ⟨i - long s p, by omega⟩
            have e : bt (Utf8.encode (rune s p : Int) ++ backR s (p + long s p)) (long s p + j) = bt (backR s (p + long s p)) j := by
              have := bt_append_right (Utf8.encode (rune s p : Int)) (backR s (p + long s p)) j (by omega)
              rwa [hsz] at this
            rw [e, b2 j (by omega), show p + (long s p + j) = p + long s p + j by omega]
    · obtain rfl : p = s.size := by omega
      rw [posAt_end s _ h]
      unfold BackEq backR
      rw [posAt_end s _ h]
      simp [runesBytes]
theorem bytes_ext (a b : ByteArray) (h1 : a.size = b.size) (h2 : ∀ i, i < b.size → bt a i = bt b i) : a = b := by
  apply ByteArray.ext
  apply Array.ext
  · exact h1
  · intro i ha hb
    have := h2 i hb
    rw [bt_get a i ha, bt_get b i hb] at this
    exact UInt8.toNat_inj.1 this
/-- the language finds the same bytes in the runes just if all steps are whole -/
theorem valid_all (s : ByteArray) : validB s = (posL s).all (whole s) := by
  rw [Bool.eq_iff_iff, ← posAt_zero, ← back_all s s.size 0 (by omega) (Nat.zero_le _)]
  unfold validB
  rw [beq_iff_eq, ByteArray.toList_eq, ByteArray.toList_eq]
  have hR : runesBytes (runesL s) = backR s 0 := rfl
  rw [hR]
  unfold BackEq
  constructor
  · intro h
    have : backR s 0 = s := by
      apply ByteArray.ext
      exact Array.toList_inj.1 h
    rw [this]
    exact ⟨by omega, fun i _ => by rw [Nat.zero_add]⟩
  · rintro ⟨h1, h2⟩
    rw [bytes_ext (backR s 0) s (by omega) (fun i hi => by rw [h2 i (by omega), Nat.zero_add])]
end Galley
