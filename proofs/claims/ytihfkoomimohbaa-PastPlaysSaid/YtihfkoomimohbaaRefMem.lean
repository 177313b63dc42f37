/- The document's past (galleyref17) in memory; more, less. -/
import Derived.Test.YtihfkoomimohbaaPintWords
import Derived.Laws.AppendOwnNone
namespace Go.Proofs.Ytihfkoomimohbaa
open Go.RowKit Past17

/-- a slice of steps that nobody writes -/
def SRow (w : World) (v : Value) (l : List (Int × ByteArray)) : Prop :=
  (v = .slice none 0 0 ∧ l = []) ∨ ∃ g off c cs, v = .slice (some ⟨g, off, none⟩) l.length c ∧ l.length ≤ c ∧ w.heap[g]? = some (.cells cs 98 (0, 0)) ∧ ∀ j u, (l.flatMap Pint.turnC)[j]? = some u → cs[off + j]? = some u
theorem SRow.nil (w : World) : SRow w (.slice none 0 0) [] := .inl ⟨rfl, rfl⟩
/-- blocks of steps and of pasts of the document stay -/
def Stays (w w' : World) : Prop := ∀ (g : Nat) (cs : Array Value), w.heap[g]? = some (.cells cs 98 (0, 0)) → w'.heap[g]? = some (.cells cs 98 (0, 0))
theorem Stays.of_below {w w' : World} (h : Below w.heap.size w w') : Stays w w' := fun g _ e => (h.block g (Array.getElem?_eq_some_iff.1 e).1).trans e
theorem SRow.stays {w w' : World} {v : Value} {l : List (Int × ByteArray)} (h : SRow w v l) (hs : Stays w w') : SRow w' v l := by
  rcases h with h | ⟨g, off, c, cs, h1, h2, h3, h4⟩
  · exact .inl h
  · exact .inr ⟨g, off, c, cs, h1, h2, hs _ _ h3, h4⟩
theorem SRow.setFar {w : World} {v : Value} {l : List (Int × ByteArray)} (h : SRow w v l) {g i : Nat} (hg : v.ownBlock ≠ some g) (x : Value) : SRow (w.setCell ⟨g, i, none⟩ x) v l := by
  rcases h with h | ⟨k, off, c, cs, h1, h2, h3, h4⟩
  · exact .inl h
  · exact .inr ⟨k, off, c, cs, h1, h2, (Below.heap_setCell w ⟨g, i, none⟩ x k (fun e => hg (by rw [h1]; exact congrArg some e))).trans h3, h4⟩
theorem SRow.form {w : World} {v : Value} {l : List (Int × ByteArray)} (h : SRow w v l) : ∃ A c, v = .slice A l.length c := by
  rcases h with ⟨rfl, rfl⟩ | ⟨g, off, c, cs, h1, _⟩
  · exact ⟨none, 0, rfl⟩
  · exact ⟨_, c, h1⟩
theorem SRow.last {w : World} {v : Value} {l : List (Int × ByteArray)} {x : Int × ByteArray} (h : SRow w v (l ++ [x])) : ∃ g off c, v = .slice (some ⟨g, off, none⟩) (l.length + 1) c ∧ l.length + 1 ≤ c ∧ w.cell? ⟨g, off + l.length * 2, none⟩ = some (.int .i64 x.1) ∧ w.cell? ⟨g, off + l.length * 2 + 1, none⟩ = some (.string x.2) := by
  rcases h with ⟨_, h⟩ | ⟨g, off, c, cs, h1, h2, h3, h4⟩
  · simp at h
  · rw [List.length_append, List.length_singleton] at h1 h2
    have h5 := h4 (l.length * 2) (.int .i64 x.1) (by rw [Pint.turns_append, List.getElem?_append_right (by rw [Pint.turns_length]; omega), Pint.turns_length]; simp)
    have h6 := h4 (l.length * 2 + 1) (.string x.2) (by rw [Pint.turns_append, List.getElem?_append_right (by rw [Pint.turns_length]; omega), Pint.turns_length]; simp)
    exact ⟨g, off, c, h1, h2, Pint.of_cells h3 _ _ h5, Pint.of_cells h3 _ _ h6⟩
theorem SRow.news {w : World} {g off n c : Nat} {l : List (Int × ByteArray)} (h : SRow w (.slice (some ⟨g, off, none⟩) n c) l) (W : World) (hs : Stays w W) : ∀ j u, (l.flatMap Pint.turnC)[j]? = some u → W.cell? ((⟨g, off, none⟩ : Addr).add j) = some u := fun j u hj => by
  rcases h with ⟨h, _⟩ | ⟨g', off', c', cs, h1, h2, h3, h4⟩
  · cases h
  · cases h1
    rw [Pint.add_none]
    exact Pint.of_cells (hs _ _ h3) _ _ (h4 j u hj)
theorem SRow.less {w : World} {g off n c : Nat} {l : List (Int × ByteArray)} {x : Int × ByteArray} (h : SRow w (.slice (some ⟨g, off, none⟩) n c) (l ++ [x])) : SRow w (.slice (some ⟨g, off, none⟩) l.length c) l := by
  rcases h with ⟨h, _⟩ | ⟨g', off', c', cs, h1, h2, h3, h4⟩
  · cases h
  · cases h1
    refine .inr ⟨_, _, _, cs, rfl, by rw [List.length_append] at h2; omega, h3, fun j u hj => h4 j u ?_⟩
    rw [Pint.turns_append, List.getElem?_append_left (List.getElem?_eq_some_iff.1 hj).1]; exact hj
theorem drop_turns (l : List (Int × ByteArray)) (k : Nat) : (l.drop k).flatMap Pint.turnC = (l.flatMap Pint.turnC).drop (k * 2) := by
  induction k generalizing l with
  | zero => simp
  | succ k ih =>
    cases l with
    | nil => simp
    | cons x l =>
      rw [show (k + 1) * 2 = k * 2 + 1 + 1 by omega, List.drop_succ_cons, ih, List.flatMap_cons]
      show _ = List.drop (k * 2 + 1 + 1) (.int .i64 x.1 :: .string x.2 :: l.flatMap Pint.turnC)
      rw [List.drop_succ_cons, List.drop_succ_cons]
theorem srow_of_owns {w : World} {base n : Nat} {g cap : Nat} {l : List (Int × ByteArray)} (h : w.ownsRow base 98 2 (.slice (some ⟨g, 0, none⟩) n cap) n (l.flatMap Pint.turnC)) (off k c : Nat) (hk : k ≤ l.length) (hc : l.length - k ≤ c) (ho : off = k * 2 ∨ k = l.length) : SRow w (.slice (some ⟨g, off, none⟩) (l.length - k) c) (l.drop k) := by
  obtain ⟨_, cs, hcs⟩ := Pint.ownsRow_type h g rfl
  refine .inr ⟨g, off, c, cs, by rw [List.length_drop], by rw [List.length_drop]; exact hc, hcs, fun j u hj => ?_⟩
  rcases ho with rfl | rfl
  · rw [drop_turns, List.getElem?_drop] at hj
    have h1 := h.cells (g := g) rfl _ _ hj
    rw [Pint.add_none, Nat.zero_add] at h1
    simpa [World.cell?, hcs] using h1
  · simp at hj

theorem wpList_append_none_any {P : Program} {w : World} {ops : Array Oper} {rest : List Oper} {o : Oper} {a : Act} {Q : Exit → Act → World → Prop} (hgd : o.guard = none) (s x : Operand) (t : TypeId)
    (ho : o.op = .call { callee := .builtin .append, args := #[s, x], argTypes := #[t, t] })
    (base : Nat) (e : TypeId) (i : TypeInfo) (size : Nat) (ht : P.underlying t = some (.slice e)) (hi : P.info? e = some i)
    (v : Value) (n : Nat) (xs : List Value) (hs : a.eval s = v) (hown : w.ownsRow base e size v n xs) (hx : a.eval x = .slice none 0 0)
    (h : ∀ v' w', w'.ownsRow base e size v' n xs → w.grownBy w' none → wpList P ops Q rest (a.put o.dst v') w') : wpList P ops Q (o :: rest) a w :=
  wpList_append_own_none hgd s x t ho base e i size ht hi v n xs hs hown hx (h v w hown ⟨rfl, rfl, rfl, Nat.le_refl _, fun _ _ _ => rfl⟩)

theorem infoStep : (Try.prog.info? 98).map (fun i => (i.zero, i.size, i.bytes)) = some (some (.agg #[.int .i64 0, .string ⟨#[]⟩]), 2, 24) := by kernel_rfl

set_option maxRecDepth 100000 in
set_option maxHeartbeats 1000000 in
theorem less_calls (w : World) (g off c : Nat) (l : List (Int × ByteArray)) (x : Int × ByteArray) (h : SRow w (.slice (some ⟨g, off, none⟩) (l.length + 1) c) (l ++ [x])) (hl : l.length ≤ 4096) (hc : l.length + 1 ≤ c) :
    Calls Try.prog 57 #[.slice (some ⟨g, off, none⟩) (l.length + 1) c] w fun e w' => ∃ v', e = .returned v' ∧ SRow w' v' l ∧ (∀ k, v'.ownBlock = some k → w.heap.size ≤ k) ∧ Below w.heap.size w w' := by
  obtain ⟨i0, hi0, hi1, hi2, hi3⟩ := Pint.info_parts infoStep
  have H := Lib.hid h.less
  have hc0 : (0 : Int) ≤ l.length := by omega
  have hc1 : (l.length : Int) ≤ c := by omega
  clear h
  go_enter Try.func57, Try.ntmps57
  go_wp2_with (at_builtin; refine wpList_append_own_at _ rfl (.tmp 3) (.tmp 8) 62 rfl w.heap.size 98 i0 (.agg #[.int .i64 0, .string ⟨#[]⟩]) 2 24 Try.underlying62 hi0 hi1 hi2 hi3 rfl (by decide) (.slice (some ⟨w.heap.size, 0, none⟩) 0 0) 0 [] (by simp [Act.eval]) (World.ownsRow_made w #[] 0 (by omega) (by unfold maxLen; omega) rfl) ⟨g, off, none⟩ l.length c (l.flatMap Pint.turnC) (by simp [Act.eval]) (Pint.turns_length l) (H.out.news _ (Stays.of_below ((Below.refl _ w).alloc (Nat.le_refl _) _))) (Pint.turns_one l) (by unfold maxLen; omega) (by omega) (by simp) ?_; intro v4 w4 hown4 hgrow4 hnil4 hat4)
  go_ret
  obtain ⟨g4, cap4, rfl, _⟩ := Pint.form_at hown4 hat4
  rw [Nat.zero_add, List.nil_append] at hown4
  have hle : l.length ≤ cap4 := by
    rcases hown4.2 with ⟨e, _⟩ | ⟨_, _, _, e, _, _, h, _⟩
    · cases e
    · cases e; omega
  have := srow_of_owns hown4 0 0 cap4 (Nat.zero_le _) (by omega) (.inl rfl)
  rw [Nat.zero_add]
  refine ⟨_, rfl, by simpa using this, fun k e => (World.ownsRow.lt hown4 k e).1, ?_⟩
  have L := (Below.refl w.heap.size w).alloc (Nat.le_refl _) (.cells #[] 98)
  exact L.grown hgrow4 (by simp) (fun k e => by cases e; exact Nat.le_refl _)

theorem Pint.form_at' {w : World} {base : Nat} {e : TypeId} {size n y : Nat} {v : Value} {xs : List Value} (h : w.ownsRow base e size v (n + 1) xs) (_ : v.ownBlock = v.ownBlock ∨ y = y) : ∃ g cap, v = .slice (some ⟨g, 0, none⟩) (n + 1) cap ∧ base ≤ g := by
  rcases h.2 with ⟨_, hn⟩ | ⟨g, cap, cur, rfl, hb, _⟩
  · omega
  · exact ⟨g, cap, rfl, hb⟩
theorem srow_more {w W : World} {base n g cap : Nat} {l : List (Int × ByteArray)} {x : Int × ByteArray} (h : W.ownsRow base 98 2 (.slice (some ⟨g, 0, none⟩) n cap) n (l.flatMap Pint.turnC ++ [.int .i64 x.1, .string x.2])) (off k c : Nat) (hk : k ≤ l.length + 1) (hc : l.length + 1 - k ≤ c) (ho : off = k * 2 ∨ k = l.length + 1) (hB : Below w.heap.size w W) (hbg : w.heap.size ≤ g) :
    SRow W (.slice (some ⟨g, off, none⟩) (l.length + 1 - k) c) ((l ++ [x]).drop k) ∧ (∀ j, (Value.slice (some ⟨g, off, none⟩) (l.length + 1 - k) c).ownBlock = some j → w.heap.size ≤ j) ∧ Below w.heap.size w W := by
  refine ⟨?_, fun j e => by cases e; exact hbg, hB⟩
  rw [← Pint.turns_append] at h
  have := srow_of_owns h off k c (by simpa using hk) (by simpa using hc) (by simpa using ho)
  simpa using this
theorem row_cap {W : World} {base n g cap : Nat} {e : TypeId} {size : Nat} {xs : List Value} (h : W.ownsRow base e size (.slice (some ⟨g, 0, none⟩) n cap) n xs) : n ≤ cap := by
  rcases h.2 with ⟨e, _⟩ | ⟨_, _, _, e, _, _, h, _⟩
  · cases e
  · cases e; exact h

set_option maxRecDepth 100000 in
set_option maxHeartbeats 2000000 in
theorem more_calls (w : World) (v : Value) (l : List (Int × ByteArray)) (s : Int) (wd : ByteArray) (most : Nat) (h : SRow w v l) (hl : l.length ≤ 4096) (hm : most ≤ 4096) :
    Calls Try.prog 56 #[v, .agg #[.int .i64 s, .string wd], .int .i64 most] w fun e w' => ∃ v', e = .returned v' ∧ SRow w' v' ((l ++ [(s, wd)]).drop (l.length + 1 - most)) ∧ (∀ k, v'.ownBlock = some k → w.heap.size ≤ k) ∧ Below w.heap.size w w' := by
  obtain ⟨i0, hi0, hi1, hi2, hi3⟩ := Pint.info_parts infoStep
  obtain ⟨W0, hW0⟩ : ∃ W0, W0 = w.alloc (.cells #[.int .i64 s, .string wd] 98) := ⟨_, rfl⟩
  have x0 : W0.heap[w.heap.size]? = some (.cells #[.int .i64 s, .string wd] 98 (0, 0)) := by rw [hW0]; exact World.alloc_heap_new w _
  have B0 : Below w.heap.size w W0 := by rw [hW0]; exact (Below.refl _ w).alloc (Nat.le_refl _) _
  have H := Lib.hid (h.stays (Stays.of_below B0))
  have hz0 : W0.heap.size = w.heap.size + 1 := by rw [hW0]; simp
  have HB0 := Lib.hid B0
  have HW0 := Lib.hid hW0
  have X0 := Lib.hid x0
  have c0 := Pint.of_cells x0 0 _ rfl
  have c1 := Pint.of_cells x0 1 _ rfl
  obtain ⟨W1, hW1⟩ : ∃ W1, W1 = W0.alloc (.cells #[] 98) := ⟨_, rfl⟩
  have hz1 : W1.heap.size = w.heap.size + 2 := by rw [hW1]; simp [hz0]
  have B1 : Below w.heap.size w W1 := by rw [hW1]; exact B0.alloc (by omega) _
  have B01 : Below W0.heap.size W0 W1 := by rw [hW1]; exact (Below.refl _ W0).alloc (Nat.le_refl _) _
  have d0 : W1.cell? ⟨w.heap.size, 0, none⟩ = some (.int .i64 s) := (B01.cell (p := ⟨w.heap.size, 0, none⟩) (by show w.heap.size < _; omega)).trans c0
  have d1 : W1.cell? ⟨w.heap.size, 1, none⟩ = some (.string wd) := (B01.cell (p := ⟨w.heap.size, 1, none⟩) (by show w.heap.size < _; omega)).trans c1
  have HB1 := Lib.hid B1
  have R1 : W1.ownsRow w.heap.size 98 2 (.slice (some ⟨w.heap.size + 1, 0, none⟩) 0 0) 0 [] := by
    rw [hW1, ← hz0]
    exact World.ownsRow_made W0 #[] 0 (by omega) (by unfold maxLen; omega) rfl
  have HR1 := Lib.hid R1
  have HW1 := Lib.hid hW1
  have HN := Lib.hid (H.out.stays (Stays.of_below B01))
  have X1 : Hid (W1.heap[w.heap.size]? = some (.cells #[.int .i64 s, .string wd] 98 (0, 0))) := Lib.hid ((B01.block _ (by omega)).trans x0)
  clear B0 hW0 x0 h hW1 B1 R1 B01 c0 c1
  go_enter Try.func56, Try.ntmps56
  rcases HN.out with ⟨hv, hl0⟩ | ⟨g, off, c, cs, hv, _⟩
  · replace hv := Lib.hid hv
    replace hl0 := Lib.hid hl0
    by_cases hk : l.length + 1 ≤ most
    · have hi1' : (l.length : Int) + 1 - most ≤ 0 := by omega
      go_wp2_with (first | (at_builtin; rw [← HW0.out, ← HW1.out]; refine wpList_append_none_any rfl (.tmp 8) (.tmp 9) 62 rfl w.heap.size 98 i0 2 Try.underlying62 hi0 (.slice (some ⟨w.heap.size + 1, 0, none⟩) 0 0) 0 [] (by simp [Act.eval]) HR1.out (by simp [Act.eval]; exact hv.out) ?_; intro v4 w4 hown4 hgrow4; have L4 := Lib.hid (HB1.out.grown hgrow4 HB1.out.size (fun k e => by cases e)); have hz4 := hgrow4.size; have e0 : w4.cell? ⟨w.heap.size, 0, none⟩ = some (.int .i64 s) := (World.cell?_of_block (hgrow4.block w.heap.size (by omega) (fun e => by cases e))).trans d0; have e1 : w4.cell? ⟨w.heap.size, 1, none⟩ = some (.string wd) := (World.cell?_of_block (hgrow4.block w.heap.size (by omega) (fun e => by cases e))).trans d1; have R4 : Hid (w4.ownsRow w.heap.size 98 2 v4 l.length (l.flatMap Pint.turnC)) := Lib.hid (by rw [hl0.out]; simpa using hown4); clear hown4 hgrow4) | (at_builtin; refine wpList_append_own_at _ rfl (.tmp 11) (.tmp 13) 62 rfl w.heap.size 98 i0 (.agg #[.int .i64 0, .string ⟨#[]⟩]) 2 24 Try.underlying62 hi0 hi1 hi2 hi3 rfl (by decide) v4 l.length (l.flatMap Pint.turnC) (by simp [Act.eval]) (R4.out.alloc _) ⟨w4.heap.size, 0, none⟩ 1 1 [.int .i64 s, .string wd] (by simp [Act.eval]) rfl (World.news_of_block (World.alloc_heap_new w4 _)) (by simp [Value.oneCell']) (by unfold maxLen; omega) (by omega) (by simp; omega) ?_; intro v5 w5 hown5 hgrow5 _ hat5; have L5 := Lib.hid ((L4.out.alloc (Nat.le_trans HB1.out.size hz4) _).grown hgrow5 (by simp; omega) (fun k e => (World.ownsRow.lt R4.out k e).1)); clear hgrow5; obtain ⟨g5, c5, rfl, hg5⟩ := Pint.form_at' (y := 0) hown5 (.inr rfl); have hcap5 := row_cap hown5; have R5 := Lib.hid hown5; clear hown5 hat5))
      all_goals
        go_ret
        refine ⟨_, rfl, ?_⟩
        rw [show l.length + 1 - most = 0 by omega]
        exact srow_more R5.out 0 0 c5 (by omega) (by omega) (.inl rfl) L5.out hg5
    · have hi1' : 0 < (l.length : Int) + 1 - most := by omega
      go_wp2_with (first | (at_builtin; rw [← HW0.out, ← HW1.out]; refine wpList_append_none_any rfl (.tmp 8) (.tmp 9) 62 rfl w.heap.size 98 i0 2 Try.underlying62 hi0 (.slice (some ⟨w.heap.size + 1, 0, none⟩) 0 0) 0 [] (by simp [Act.eval]) HR1.out (by simp [Act.eval]; exact hv.out) ?_; intro v4 w4 hown4 hgrow4; have L4 := Lib.hid (HB1.out.grown hgrow4 HB1.out.size (fun k e => by cases e)); have hz4 := hgrow4.size; have e0 : w4.cell? ⟨w.heap.size, 0, none⟩ = some (.int .i64 s) := (World.cell?_of_block (hgrow4.block w.heap.size (by omega) (fun e => by cases e))).trans d0; have e1 : w4.cell? ⟨w.heap.size, 1, none⟩ = some (.string wd) := (World.cell?_of_block (hgrow4.block w.heap.size (by omega) (fun e => by cases e))).trans d1; have R4 : Hid (w4.ownsRow w.heap.size 98 2 v4 l.length (l.flatMap Pint.turnC)) := Lib.hid (by rw [hl0.out]; simpa using hown4); clear hown4 hgrow4) | (at_builtin; refine wpList_append_own_at _ rfl (.tmp 11) (.tmp 13) 62 rfl w.heap.size 98 i0 (.agg #[.int .i64 0, .string ⟨#[]⟩]) 2 24 Try.underlying62 hi0 hi1 hi2 hi3 rfl (by decide) v4 l.length (l.flatMap Pint.turnC) (by simp [Act.eval]) (R4.out.alloc _) ⟨w4.heap.size, 0, none⟩ 1 1 [.int .i64 s, .string wd] (by simp [Act.eval]) rfl (World.news_of_block (World.alloc_heap_new w4 _)) (by simp [Value.oneCell']) (by unfold maxLen; omega) (by omega) (by simp; omega) ?_; intro v5 w5 hown5 hgrow5 _ hat5; have L5 := Lib.hid ((L4.out.alloc (Nat.le_trans HB1.out.size hz4) _).grown hgrow5 (by simp; omega) (fun k e => (World.ownsRow.lt R4.out k e).1)); clear hgrow5; obtain ⟨g5, c5, rfl, hg5⟩ := Pint.form_at' (y := 0) hown5 (.inr rfl); have hcap5 := row_cap hown5; have R5 := Lib.hid hown5; clear hown5 hat5))
      all_goals
        go_ret
        refine ⟨_, rfl, ?_⟩
        first
          | exact srow_more R5.out ((l.length + 1 - most) * 2) (l.length + 1 - most) (c5 - (l.length + 1 - most)) (by omega) (by omega) (.inl rfl) L5.out hg5
          | exact srow_more R5.out 0 (l.length + 1 - most) 0 (by omega) (by omega) (.inr (by omega)) L5.out hg5
          | exact srow_more R5.out 0 (l.length + 1 - most) (c5 - (l.length + 1 - most)) (by omega) (by omega) (.inr (by omega)) L5.out hg5
  · subst hv
    by_cases hk : l.length + 1 ≤ most
    · have hi1' : (l.length : Int) + 1 - most ≤ 0 := by omega
      go_wp2_with (first | (at_builtin; rw [← HW0.out, ← HW1.out]; refine wpList_append_own_at _ rfl (.tmp 8) (.tmp 9) 62 rfl w.heap.size 98 i0 (.agg #[.int .i64 0, .string ⟨#[]⟩]) 2 24 Try.underlying62 hi0 hi1 hi2 hi3 rfl (by decide) (.slice (some ⟨w.heap.size + 1, 0, none⟩) 0 0) 0 [] (by simp [Act.eval]) HR1.out ⟨g, off, none⟩ l.length c (l.flatMap Pint.turnC) (by simp [Act.eval]) (Pint.turns_length l) (HN.out.news _ (fun _ _ e => e)) (Pint.turns_one l) (by unfold maxLen; omega) (by omega) (by omega) ?_; intro v4 w4 hown4 hgrow4 _ _; have L4 := Lib.hid (HB1.out.grown hgrow4 HB1.out.size (fun k e => (World.ownsRow.lt HR1.out k e).1)); have hz4 := hgrow4.size; have e0 : w4.cell? ⟨w.heap.size, 0, none⟩ = some (.int .i64 s) := (World.cell?_of_block (hgrow4.block w.heap.size (by omega) (fun e => by simp [Value.ownBlock] at e))).trans d0; have e1 : w4.cell? ⟨w.heap.size, 1, none⟩ = some (.string wd) := (World.cell?_of_block (hgrow4.block w.heap.size (by omega) (fun e => by simp [Value.ownBlock] at e))).trans d1; have R4 : Hid (w4.ownsRow w.heap.size 98 2 v4 l.length (l.flatMap Pint.turnC)) := Lib.hid (by simpa using hown4); clear hown4 hgrow4) | (at_builtin; refine wpList_append_own_at _ rfl (.tmp 11) (.tmp 13) 62 rfl w.heap.size 98 i0 (.agg #[.int .i64 0, .string ⟨#[]⟩]) 2 24 Try.underlying62 hi0 hi1 hi2 hi3 rfl (by decide) v4 l.length (l.flatMap Pint.turnC) (by simp [Act.eval]) (R4.out.alloc _) ⟨w4.heap.size, 0, none⟩ 1 1 [.int .i64 s, .string wd] (by simp [Act.eval]) rfl (World.news_of_block (World.alloc_heap_new w4 _)) (by simp [Value.oneCell']) (by unfold maxLen; omega) (by omega) (by simp; omega) ?_; intro v5 w5 hown5 hgrow5 _ hat5; have L5 := Lib.hid ((L4.out.alloc (Nat.le_trans HB1.out.size hz4) _).grown hgrow5 (by simp; omega) (fun k e => (World.ownsRow.lt R4.out k e).1)); clear hgrow5; obtain ⟨g5, c5, rfl, hg5⟩ := Pint.form_at' (y := 0) hown5 (.inr rfl); have hcap5 := row_cap hown5; have R5 := Lib.hid hown5; clear hown5 hat5))
      all_goals
        go_ret
        refine ⟨_, rfl, ?_⟩
        rw [show l.length + 1 - most = 0 by omega]
        exact srow_more R5.out 0 0 c5 (by omega) (by omega) (.inl rfl) L5.out hg5
    · have hi1' : 0 < (l.length : Int) + 1 - most := by omega
      go_wp2_with (first | (at_builtin; rw [← HW0.out, ← HW1.out]; refine wpList_append_own_at _ rfl (.tmp 8) (.tmp 9) 62 rfl w.heap.size 98 i0 (.agg #[.int .i64 0, .string ⟨#[]⟩]) 2 24 Try.underlying62 hi0 hi1 hi2 hi3 rfl (by decide) (.slice (some ⟨w.heap.size + 1, 0, none⟩) 0 0) 0 [] (by simp [Act.eval]) HR1.out ⟨g, off, none⟩ l.length c (l.flatMap Pint.turnC) (by simp [Act.eval]) (Pint.turns_length l) (HN.out.news _ (fun _ _ e => e)) (Pint.turns_one l) (by unfold maxLen; omega) (by omega) (by omega) ?_; intro v4 w4 hown4 hgrow4 _ _; have L4 := Lib.hid (HB1.out.grown hgrow4 HB1.out.size (fun k e => (World.ownsRow.lt HR1.out k e).1)); have hz4 := hgrow4.size; have e0 : w4.cell? ⟨w.heap.size, 0, none⟩ = some (.int .i64 s) := (World.cell?_of_block (hgrow4.block w.heap.size (by omega) (fun e => by simp [Value.ownBlock] at e))).trans d0; have e1 : w4.cell? ⟨w.heap.size, 1, none⟩ = some (.string wd) := (World.cell?_of_block (hgrow4.block w.heap.size (by omega) (fun e => by simp [Value.ownBlock] at e))).trans d1; have R4 : Hid (w4.ownsRow w.heap.size 98 2 v4 l.length (l.flatMap Pint.turnC)) := Lib.hid (by simpa using hown4); clear hown4 hgrow4) | (at_builtin; refine wpList_append_own_at _ rfl (.tmp 11) (.tmp 13) 62 rfl w.heap.size 98 i0 (.agg #[.int .i64 0, .string ⟨#[]⟩]) 2 24 Try.underlying62 hi0 hi1 hi2 hi3 rfl (by decide) v4 l.length (l.flatMap Pint.turnC) (by simp [Act.eval]) (R4.out.alloc _) ⟨w4.heap.size, 0, none⟩ 1 1 [.int .i64 s, .string wd] (by simp [Act.eval]) rfl (World.news_of_block (World.alloc_heap_new w4 _)) (by simp [Value.oneCell']) (by unfold maxLen; omega) (by omega) (by simp; omega) ?_; intro v5 w5 hown5 hgrow5 _ hat5; have L5 := Lib.hid ((L4.out.alloc (Nat.le_trans HB1.out.size hz4) _).grown hgrow5 (by simp; omega) (fun k e => (World.ownsRow.lt R4.out k e).1)); clear hgrow5; obtain ⟨g5, c5, rfl, hg5⟩ := Pint.form_at' (y := 0) hown5 (.inr rfl); have hcap5 := row_cap hown5; have R5 := Lib.hid hown5; clear hown5 hat5))
      all_goals
        go_ret
        refine ⟨_, rfl, ?_⟩
        first
          | exact srow_more R5.out ((l.length + 1 - most) * 2) (l.length + 1 - most) (c5 - (l.length + 1 - most)) (by omega) (by omega) (.inl rfl) L5.out hg5
          | exact srow_more R5.out 0 (l.length + 1 - most) 0 (by omega) (by omega) (.inr (by omega)) L5.out hg5
          | exact srow_more R5.out 0 (l.length + 1 - most) (c5 - (l.length + 1 - most)) (by omega) (by omega) (.inr (by omega)) L5.out hg5
end Go.Proofs.Ytihfkoomimohbaa
