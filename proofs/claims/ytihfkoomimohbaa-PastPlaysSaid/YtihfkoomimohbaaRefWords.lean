/- The document's past: Words. -/
import Derived.Test.YtihfkoomimohbaaRefRest
import Derived.Deep.LoopGhost
namespace Go.Proofs.Ytihfkoomimohbaa
open Go.RowKit Past17

theorem turns_get (l : List (Int × ByteArray)) : ∀ (j : Nat) (x : Int × ByteArray), l[j]? = some x → (l.flatMap Pint.turnC)[j * 2 + 1]? = some (.string x.2) := by
  induction l with
  | nil => intro j x h; cases h
  | cons y l ih =>
    intro j x h
    cases j with
    | zero => cases h; simp [Pint.turnC]
    | succ j =>
      rw [List.flatMap_cons, List.getElem?_append_right (by simp [Pint.turnC]; omega)]
      have : (j + 1) * 2 + 1 - (Pint.turnC y).length = j * 2 + 1 := by simp [Pint.turnC]; omega
      rw [this]
      exact ih j x h
theorem SRow.word {w : World} {v : Value} {l : List (Int × ByteArray)} (h : SRow w v l) {j : Nat} {x : Int × ByteArray} (hj : l[j]? = some x) :
    ∃ g off c, v = .slice (some ⟨g, off, none⟩) l.length c ∧ w.cell? ⟨g, off + j * 2 + 1, none⟩ = some (.string x.2) := by
  rcases h with ⟨_, rfl⟩ | ⟨g, off, c, cs, h1, h2, h3, h4⟩
  · cases hj
  · exact ⟨g, off, c, h1, Pint.of_cells h3 _ _ (h4 _ _ (turns_get l j x hj))⟩

set_option maxRecDepth 100000 in
set_option maxHeartbeats 1000000 in
theorem ref_Words (w : World) (v : Value) (l : List (Int × ByteArray)) (h : SRow w v l) (hn : l.length ≤ 4096) :
    Calls Try.prog 31 #[v] w fun e w' => ∃ v', e = .returned v' ∧ StrRow w' w.heap.size v' (wordsP l) ∧ Below w.heap.size w w' := by
  obtain ⟨r0, hr0, hr1, hr2, hr3⟩ := Pint.info_parts infoStr
  obtain ⟨A, c, rfl⟩ := h.form
  have H := Lib.hid h
  clear h
  go_enter Try.func31, Try.ntmps31
  go_wp2_with fail
  go_loopw [3, 4] (fun out i wr => ∃ k : Nat, i = .int .i64 ((l.length : Int) - 1 - k) ∧ k ≤ l.length ∧ wr.ownsRow w.heap.size 9 1 out k (((wordsP l).take k).map Value.string) ∧ Below w.heap.size w wr) (fun _ i _ => (intOf i + 1).toNat)
  case atStart => exact ⟨0, by simp, Nat.zero_le _, World.ownsRow_nil _ _ _ _, Below.refl _ _⟩
  case round =>
    obtain ⟨k, rfl, hk, hrow, hbw⟩ := hrel
    have HW := Lib.hid hbw
    have HR := Lib.hid hrow
    clear hbw hrow
    by_cases hkl : k < l.length
    · obtain ⟨m, hm⟩ : ∃ m : Nat, l.length = m + 1 + k := ⟨l.length - 1 - k, by omega⟩
      obtain ⟨x, hx⟩ : ∃ x, l[m]? = some x := ⟨_, List.getElem?_eq_getElem (by omega)⟩
      obtain ⟨g, off, cap, e, hc⟩ := H.out.word hx
      cases e
      have hc' : wr.cell? ⟨g, off + m * 2 + 1, none⟩ = some (.string x.2) := cell_stays HW.out hc
      have HT : Hid ((wordsP l).take (k + 1) = (wordsP l).take k ++ [x.2]) := by
        show _ = _
        rw [List.take_add_one]
        congr 1
        unfold wordsP
        rw [List.getElem?_map, List.getElem?_reverse (by omega), show l.length - 1 - k = m by omega, hx]; rfl
      have hi : (l.length : Int) - 1 - k = m := by omega
      have hml : m < l.length := by omega
      rw [hi]
      have HMm : Hid (l.length = m + 1 + k) := hm
      clear hx hc hi hm
      go_wp2_with (at_builtin; refine wpList_append_own _ rfl (.tmp 12) (.tmp 18) 37 rfl w.heap.size 9 r0 (.string ⟨#[]⟩) 1 16 Try.underlying37 hr0 hr1 hr2 hr3 rfl (by decide) _ _ _ rfl (HR.out.alloc _) ⟨wr.heap.size, 0, none⟩ 1 1 [.string x.2] rfl rfl (World.news_of_block (World.alloc_heap_new wr _)) (by simp [Value.oneCell']) (by unfold maxLen; omega) (by omega) (by have := HW.out.size; simp; omega) ?_; intro v' w4 hown' hgrow _)
      go_roundw
      case rel =>
        refine ⟨k + 1, by have := HMm.out; simp; omega, by omega, ?_, HW.out.grown ((World.grownBy_alloc wr _ _).trans hgrow) HW.out.size (fun k e => (HR.out.lt k e).1)⟩
        rw [HT.out, List.map_append]
        exact hown'
      case measure => simp [intOf]
    · obtain rfl : k = l.length := by omega
      go_wp2_with fail
      go_ret
      have hl : (wordsP l).length = l.length := by simp [wordsP]
      refine ⟨_, rfl, ?_, HW.out⟩
      have := HR.out
      rw [← hl, List.take_length] at this
      exact this

end Go.Proofs.Ytihfkoomimohbaa
