/- past.words[int] and Words. -/
import Derived.Test.YtihfkoomimohbaaPintUR
import Derived.Test.YtihfkoomimohbaaStrs
import Derived.Deep.LoopGhost
namespace Go.Proofs.Ytihfkoomimohbaa.Pint
open Go.RowKit Past17

theorem turn_word {w : World} {base : Nat} {v : Value} {l : List (Int × ByteArray)} (h : w.ownsRow base 78 2 v l.length (l.flatMap turnC)) {j : Nat} {x : Int × ByteArray} (hj : l[j]? = some x) :
    ∃ g cap, v = .slice (some ⟨g, 0, none⟩) l.length cap ∧ w.cell? ⟨g, j * 2 + 1, none⟩ = some (.string x.2) := by
  have hlt := (List.getElem?_eq_some_iff.1 hj).1
  obtain ⟨g, cap, rfl, _, _⟩ := h.form (by omega)
  refine ⟨g, cap, rfl, ?_⟩
  have h1 := h.cells (g := g) rfl (j * 2 + 1) (.string x.2) ?_
  · rwa [add_none, Nat.zero_add] at h1
  · clear h
    induction l generalizing j with
    | nil => cases hj
    | cons y l ih =>
      cases j with
      | zero => cases hj; simp [turnC]
      | succ j =>
        rw [List.flatMap_cons, List.getElem?_append_right (by simp [turnC]; omega)]
        have : (j + 1) * 2 + 1 - (turnC y).length = j * 2 + 1 := by simp [turnC]; omega
        rw [this]
        exact ih hj (by simpa using hlt)

set_option maxRecDepth 100000 in
set_option maxHeartbeats 1000000 in
theorem words_calls (w : World) (base : Nat) (v : Value) (l : List (Int × ByteArray)) (h : w.ownsRow base 78 2 v l.length (l.flatMap turnC)) (hn : l.length ≤ 4096) :
    Calls Try.prog 37 #[v] w fun e w' => ∃ v', e = .returned v' ∧ StrRow w' w.heap.size v' (wordsP l) ∧ Below w.heap.size w w' := by
  obtain ⟨r0, hr0, hr1, hr2, hr3⟩ := info_parts infoStr
  have hv : ∃ A c, v = .slice A l.length c := by
    rcases h.2 with ⟨e, hn⟩ | ⟨g, cap, cur, e, _⟩
    · exact ⟨none, 0, by rw [e, hn]⟩
    · exact ⟨_, _, e⟩
  obtain ⟨A, c, rfl⟩ := hv
  have H := Lib.hid h
  clear h
  go_enter Try.func37, Try.ntmps37
  go_wp2_with fail
  go_loopw [3, 4] (fun out i wr => ∃ k : Nat, i = .int .i64 ((l.length : Int) - 1 - k) ∧ k ≤ l.length ∧ wr.ownsRow w.heap.size 9 1 out k (((wordsP l).take k).map Value.string) ∧ Below w.heap.size w wr) (fun _ i _ => (intOf i + 1).toNat)
  case atStart => exact ⟨0, by simp, Nat.zero_le _, World.ownsRow_nil _ _ _ _, Below.refl _ _⟩
  case round =>
    obtain ⟨k, rfl, hk, hrow, hbw⟩ := hrel
    have HW := Lib.hid hbw
    have HR := Lib.hid hrow
    clear hbw hrow
    by_cases hkl : k < l.length
    · obtain ⟨m, hm⟩ : ∃ m : Nat, l.length = m + 1 + k := ⟨l.length - 1 - k, by omega⟩
      obtain ⟨x, hx⟩ : ∃ x, l[m]? = some x := ⟨_, List.getElem?_eq_getElem (by omega)⟩
      obtain ⟨g, cap, e, hc⟩ := turn_word H.out hx
      cases e
      have hc' : wr.cell? ⟨g, m * 2 + 1, none⟩ = some (.string x.2) := cell_stays HW.out hc
      have HT : Hid ((wordsP l).take (k + 1) = (wordsP l).take k ++ [x.2]) := by
        show _ = _
        rw [List.take_add_one]
        congr 1
        unfold wordsP
        rw [List.getElem?_map, List.getElem?_reverse (by omega), show l.length - 1 - k = m by omega, hx]; rfl
      have hi : (l.length : Int) - 1 - k = m := by omega
      have hml : m < l.length := by omega
      rw [hi]
      have HMm : Hid (l.length = m + 1 + k) := hm
      clear hx hc hi hm
      go_wp2_with (at_builtin; refine wpList_append_own _ rfl (.tmp 12) (.tmp 18) 37 rfl w.heap.size 9 r0 (.string ⟨#[]⟩) 1 16 Try.underlying37 hr0 hr1 hr2 hr3 rfl (by decide) _ _ _ rfl (HR.out.alloc _) ⟨wr.heap.size, 0, none⟩ 1 1 [.string x.2] rfl rfl (World.news_of_block (World.alloc_heap_new wr _)) (by simp [Value.oneCell']) (by unfold maxLen; omega) (by omega) (by have := HW.out.size; simp; omega) ?_; intro v' w4 hown' hgrow _)
      go_roundw
      case rel =>
        refine ⟨k + 1, by have := HMm.out; simp; omega, by omega, ?_, HW.out.grown ((World.grownBy_alloc wr _ _).trans hgrow) HW.out.size (fun k e => (HR.out.lt k e).1)⟩
        rw [HT.out, List.map_append]
        exact hown'
      case measure => simp [intOf]
    · obtain rfl : k = l.length := by omega
      go_wp2_with fail
      go_ret
      have hl : (wordsP l).length = l.length := by simp [wordsP]
      refine ⟨_, rfl, ?_, HW.out⟩
      have := HR.out
      rw [← hl, List.take_length] at this
      exact this

theorem rows_far {w2 w3 : World} {base : Nat} {u u' : Value} {L L' : List ByteArray} (h1 : StrRow w2 base u L) (h2 : StrRow w3 w2.heap.size u' L') : ∀ g, u.ownBlock = some g → u'.ownBlock = some g → False := fun g e1 e2 => by
  have p1 := (World.ownsRow.lt h1 g e1).2
  have p2 := (World.ownsRow.lt h2 g e2).1
  omega
set_option maxRecDepth 100000 in
set_option maxHeartbeats 2000000 in
theorem Words_calls (w : World) (base b : Nat) (m : Pst Int) (h : Past w base b m) :
    Calls Try.prog 17 #[.pointer (some ⟨b, 0, none⟩)] w fun e w' => ∃ vB vA, e = .returned (.tuple #[vB, vA]) ∧ StrRow w' w.heap.size vB (wordsP m.back) ∧ StrRow w' w.heap.size vA (wordsP m.again) ∧ (∀ g, vB.ownBlock = some g → vA.ownBlock ≠ some g) ∧ Below w.heap.size w w' := by
  obtain ⟨vb, va, vo, h⟩ := h
  have hlt := h.lt
  have hl1 : m.back.length ≤ 4096 := by have := h.ok.len; have := h.ok.mx; omega
  have hl2 : m.again.length ≤ 4096 := by have := h.ok.len; have := h.ok.mx; omega
  have HD := Lib.hid h.drew
  have hbel : Hid (∀ W, Below w.drew.heap.size w.drew W → W.ownsRow base 78 2 vb m.back.length (m.back.flatMap turnC) ∧ W.ownsRow base 78 2 va m.again.length (m.again.flatMap turnC) ∧ W.cell? ⟨b, 2, none⟩ = some vb ∧ W.cell? ⟨b, 3, none⟩ = some va) := fun W hb => by
    have M : Moves w.drew W b [] := (Moves.refl w.drew b _).below hb
    have hbk : W.heap[b]? = _ := (hb.block _ hlt).trans h.drew.blk
    exact ⟨M.row h.drew.rb (fun e => h.nb e.symm) (fun u hu => by cases hu), M.row h.drew.ra (fun e => h.na e.symm) (fun u hu => by cases hu), of_cells hbk 2 vb rfl, of_cells hbk 3 va rfl⟩
  have cB := of_cells h.blk 2 vb rfl
  have cA := of_cells h.blk 3 va rfl
  clear h
  go_enter Try.func17, Try.ntmps17
  go_wp2_with fail
  go_region_with (go_at_call 37; first
    | ((with_reducible refine (words_calls _ base vb m.back HD.out.rb hl1).mono ?_); rintro e w2 ⟨vB, rfl, RB, L2⟩; obtain ⟨j1, j2, j3, j4⟩ := hbel.out w2 L2; have HR2 := Lib.hid RB; have HL2 := Lib.hid L2; have J := Lib.hid j2; clear j1 j2 RB L2)
    | ((with_reducible refine (words_calls _ base va m.again HD.out.ra hl2).mono ?_); rintro e w2 ⟨vA, rfl, RA, L2⟩; obtain ⟨j1, j2, j3, j4⟩ := hbel.out w2 L2; have HR2 := Lib.hid RA; have HL2 := Lib.hid L2; have J := Lib.hid j1; clear j1 j2 RA L2)
    | ((with_reducible refine (words_calls _ base va m.again J.out hl2).mono ?_); rintro e w3 ⟨vA, rfl, RA, L3⟩; have HR3 := Lib.hid RA; have HL3 := Lib.hid L3; clear RA L3)
    | ((with_reducible refine (words_calls _ base vb m.back J.out hl1).mono ?_); rintro e w3 ⟨vB, rfl, RB, L3⟩; have HR3 := Lib.hid RB; have HL3 := Lib.hid L3; clear RB L3))
  all_goals
    have hz : w.drew.heap.size ≤ w2.heap.size := HL2.out.size
    go_wp2_with fail
    refine bodyPost_ret (v := .tuple #[vB, vA]) (by simp [results, Try.results17, go_sem]) rfl ⟨vB, vA, rfl, ?_, ?_, ?_, ((Below.refl _ w).drew.trans HL2.out).trans (HL3.out.mono hz)⟩
    · first
      | exact HR2.out.below HL3.out
      | exact HR3.out.mono hz
    · first
      | exact HR2.out.below HL3.out
      | exact HR3.out.mono hz
    · first
      | exact fun g e1 e2 => rows_far HR2.out HR3.out g e1 e2
      | exact fun g e1 e2 => rows_far HR2.out HR3.out g e2 e1
end Go.Proofs.Ytihfkoomimohbaa.Pint
