/- The statements' step: words. -/
import Derived.Test.YtihfkoomimohbaaRefWords
import Derived.Test.YtihfkoomimohbaaNil
import Derived.Test.YtihfkoomimohbaaQ6
namespace Go.Proofs.Ytihfkoomimohbaa
open Go.RowKit Past17

theorem Pint.Spares.below {a b c : World} (h : Pint.Spares a b) (k : Below a.heap.size b c) : Pint.Spares a c := fun g cs t fr e h1 h2 h3 => (k.block g (Array.getElem?_eq_some_iff.1 e).1).trans (h g cs t fr e h1 h2 h3)
theorem Pint.Spares.stays {w w' : World} (h : Pint.Spares w w') : Stays w w' := fun g cs e => h g cs _ _ e (by decide) (by decide) (by decide)
theorem Ppair.Spares.below {a b c : World} (h : Ppair.Spares a b) (k : Below a.heap.size b c) : Ppair.Spares a c := fun g cs t fr e h1 h2 h3 => (k.block g (Array.getElem?_eq_some_iff.1 e).1).trans (h g cs t fr e h1 h2 h3)
theorem Ppair.Spares.stays {w w' : World} (h : Ppair.Spares w w') : Stays w w' := fun g cs e => h g cs _ _ e (by decide) (by decide) (by decide)
theorem Pint.Past.others {w w' : World} {base b : Nat} {m : Pst Int} (h : Pint.Past w base b m) (hs : ∀ (g : Nat) (cs : Array Value) (t : TypeId), w.heap[g]? = some (.cells cs t (0, 0)) → t ≠ 64 → t ≠ 98 → t ≠ 32 → w'.heap[g]? = some (.cells cs t (0, 0))) : Pint.Past w' base b m := by
  obtain ⟨vb, va, vo, h⟩ := h
  have row : ∀ {v : Value} {n : Nat} {xs : List Value}, w.ownsRow base 78 2 v n xs → w'.ownsRow base 78 2 v n xs := fun h => by
    refine ⟨h.1, ?_⟩
    rcases h.2 with hn | ⟨g, cap, cur, rfl, hb, hg, rest⟩
    · exact .inl hn
    · exact .inr ⟨g, cap, cur, rfl, hb, hs g _ _ hg (by decide) (by decide) (by decide), rest⟩
  refine ⟨vb, va, vo, h.hb, hs _ _ _ h.blk (by decide) (by decide) (by decide), row h.rb, row h.ra, h.dis, ?_, h.ok⟩
  have ho := h.op
  cases hm : m.opn with
  | none => rw [hm] at ho; exact ho
  | some x =>
    obtain ⟨s, wd, did⟩ := x
    rw [hm] at ho
    obtain ⟨o, e, hb, hc⟩ := ho
    exact ⟨o, e, hb, hs _ _ _ hc (by decide) (by decide) (by decide)⟩
theorem Ppair.Past.others {w w' : World} {base b : Nat} {m : Pst (Int × ByteArray)} (h : Ppair.Past w base b m) (hs : ∀ (g : Nat) (cs : Array Value) (t : TypeId), w.heap[g]? = some (.cells cs t (0, 0)) → t ≠ 64 → t ≠ 98 → t ≠ 32 → w'.heap[g]? = some (.cells cs t (0, 0))) : Ppair.Past w' base b m := by
  obtain ⟨vb, va, vo, h⟩ := h
  have row : ∀ {v : Value} {n : Nat} {xs : List Value}, w.ownsRow base 114 3 v n xs → w'.ownsRow base 114 3 v n xs := fun h => by
    refine ⟨h.1, ?_⟩
    rcases h.2 with hn | ⟨g, cap, cur, rfl, hb, hg, rest⟩
    · exact .inl hn
    · exact .inr ⟨g, cap, cur, rfl, hb, hs g _ _ hg (by decide) (by decide) (by decide), rest⟩
  refine ⟨vb, va, vo, h.hb, hs _ _ _ h.blk (by decide) (by decide) (by decide), row h.rb, row h.ra, h.dis, ?_, h.ok⟩
  have ho := h.op
  cases hm : m.opn with
  | none => rw [hm] at ho; exact ho
  | some x =>
    obtain ⟨s, wd, did⟩ := x
    rw [hm] at ho
    obtain ⟨o, e, hb, hc⟩ := ho
    exact ⟨o, e, hb, hs _ _ _ hc (by decide) (by decide) (by decide)⟩
theorem end_nine (W : World) (g n : Nat) (hn : n ≤ g) (a b c d e f i j k : Value) (v1 : W.heap[g]? = some (.cells #[a, b, c, d, e, f, i, j, k] 64 (0, 0))) (x0 x1 x2 x3 x4 x5 x6 x7 x8 : Value) :
    ∃ W7, W7 = (((((((((W.setCell ⟨g, 0, none⟩ x0).setCell ⟨g, 1, none⟩ x1).setCell ⟨g, 2, none⟩ x2).setCell ⟨g, 3, none⟩ x3).setCell ⟨g, 4, none⟩ x4).setCell ⟨g, 5, none⟩ x5).setCell ⟨g, 6, none⟩ x6).setCell ⟨g, 7, none⟩ x7).setCell ⟨g, 8, none⟩ x8) ∧ W7.heap[g]? = some (.cells #[x0, x1, x2, x3, x4, x5, x6, x7, x8] 64 (0, 0)) ∧ Below n W W7 ∧ Stays W W7 ∧ (∀ (h : Nat) (cs : Array Value) (t : TypeId), W.heap[h]? = some (.cells cs t (0, 0)) → t ≠ 64 → W7.heap[h]? = some (.cells cs t (0, 0))) ∧ (∀ h, h ≠ g → W7.heap[h]? = W.heap[h]?) := by
  refine ⟨_, rfl, nine_set v1 _ _ _ _ _ _ _ _ _, nine_below _ _ _ hn _ _ _ _ _ _ _ _ _, nine_stays v1 x0 x1 x2 x3 x4 x5 x6 x7 x8, ?_, fun h hne => nine_far _ _ _ hne _ _ _ _ _ _ _ _ _⟩
  intro h cs t hh ht
  have hne : h ≠ g := fun e => by subst e; rw [v1] at hh; cases hh; exact ht rfl
  exact (nine_far _ _ _ hne _ _ _ _ _ _ _ _ _).trans hh
theorem of_int (s : Int) (w : World) : Calls Try.prog 12 #[.int .i64 s] w fun e w' => e = .returned (.int .i64 s) ∧ w' = w := by
  go_enter Try.func12, Try.ntmps12
  go_wp2_with fail
  go_ret
  exact ⟨rfl, rfl⟩
theorem of_pair (s : Int) (w : World) : Calls Try.prog 14 #[.int .i64 s] w fun e w' => e = .returned (.agg #[.int .i64 s, .string ⟨#[115]⟩]) ∧ Below w.heap.size w w' := by
  go_enter Try.func14, Try.ntmps14
  go_wp2_with fail
  refine bodyPost_ret (Ppair.ret_cell rfl _ _ w.heap.size _ _ rfl (World.alloc_heap_new w _)) rfl ?_
  exact ⟨rfl, (Below.refl _ w).alloc (Nat.le_refl _) _⟩
def pf (s : Int) : Int × ByteArray := (s, ⟨#[115]⟩)
theorem pair_do (w : World) (base b : Nat) (m : Pst Int) (s : Int) (wd : ByteArray) (h : Ppair.Past w base b (mapP pf m)) :
    Calls Try.prog 49 #[.pointer (some ⟨b, 0, none⟩), .agg #[.int .i64 s, .string ⟨#[115]⟩], .string wd] w fun e w' => e = .returned (.int .i64 0) ∧ Ppair.Past w' base b (mapP pf (doP m s wd)) ∧ Ppair.Spares w w' ∧ Below base w w' := by
  have := Ppair.do_calls w base b _ (pf s) wd h
  rwa [map_do] at this
theorem pair_begin (w : World) (base b : Nat) (m : Pst Int) (wd : ByteArray) (h : Ppair.Past w base b (mapP pf m)) :
    Calls Try.prog 52 #[.pointer (some ⟨b, 0, none⟩), .string wd] w fun e w' => e = .returned (.int .i64 (closedN m)) ∧ Ppair.Past w' base b (mapP pf (beginP m wd)) ∧ Ppair.Spares w w' ∧ Below base w w' := by
  have := Ppair.begin_calls w base b _ wd h
  rwa [map_begin, map_closed] at this
theorem pair_end (w : World) (base b : Nat) (m : Pst Int) (h : Ppair.Past w base b (mapP pf m)) :
    Calls Try.prog 53 #[.pointer (some ⟨b, 0, none⟩)] w fun e w' => e = .returned (.int .i64 (endN m)) ∧ Ppair.Past w' base b (mapP pf (endP m)) ∧ Ppair.Spares w w' ∧ Below base w w' := by
  have := Ppair.end_calls w base b _ h
  rwa [map_end, map_endN] at this
theorem SRow.lt {w : World} {v : Value} {l : List (Int × ByteArray)} (h : SRow w v l) : ∀ k, v.ownBlock = some k → k < w.heap.size := by
  rcases h with ⟨rfl, _⟩ | ⟨g, off, c, cs, rfl, _, h3, _⟩
  · intro k e; cases e
  · intro k e; cases e; exact (Array.getElem?_eq_some_iff.1 h3).1
theorem far_98 {W : World} {g : Nat} {cs : Array Value} {x y : Value} (hg : W.heap[g]? = some (.cells cs 98 (0, 0))) : ∀ (h : Nat) (cs : Array Value) (t : TypeId), W.heap[h]? = some (.cells cs t (0, 0)) → t ≠ 98 → ((W.setCell ⟨g, 0, none⟩ x).setCell ⟨g, 1, none⟩ y).heap[h]? = some (.cells cs t (0, 0)) := fun h cs t hh ht =>
  far_two hh (fun e => by subst e; rw [hg] at hh; cases hh; exact ht rfl)
theorem pair_forget (w : World) (base b : Nat) (m : Pst Int) (h : Ppair.Past w base b (mapP pf m)) :
    Calls Try.prog 54 #[.pointer (some ⟨b, 0, none⟩)] w fun e w' => e = .returned (.int .i64 (closedN m)) ∧ Ppair.Past w' base b (mapP pf (forgetP m)) ∧ Ppair.Spares w w' ∧ Below base w w' := by
  have := Ppair.forget_calls w base b _ h
  rwa [map_forget, map_closed] at this
theorem int_undo_some (w : World) (base b : Nat) (m : Pst Int) (x : Int × ByteArray) (h : Pint.Past w base b m) (hx : undoA m = (some x, 0)) :
    Calls Try.prog 19 #[.pointer (some ⟨b, 0, none⟩)] w fun e w' => e = .returned (.tuple #[.int .i64 x.1, .string x.2, .int .i64 0]) ∧ Pint.Past w' base b (undoP m) ∧ Pint.Spares w w' ∧ Below base w w' := by
  have := Pint.undo_calls w base b _ h
  rw [hx] at this
  exact this
theorem int_undo_none (w : World) (base b : Nat) (m : Pst Int) (n : Int) (h : Pint.Past w base b m) (hx : undoA m = (none, n)) :
    Calls Try.prog 19 #[.pointer (some ⟨b, 0, none⟩)] w fun e w' => e = .returned (.tuple #[.int .i64 0, .string ⟨#[]⟩, .int .i64 n]) ∧ Pint.Past w' base b (undoP m) ∧ Pint.Spares w w' ∧ Below base w w' := by
  have := Pint.undo_calls w base b _ h
  rw [hx] at this
  exact this
theorem pair_undo_some (w : World) (base b : Nat) (m : Pst Int) (x : Int × ByteArray) (h : Ppair.Past w base b (mapP pf m)) (hx : undoA m = (some x, 0)) :
    Calls Try.prog 50 #[.pointer (some ⟨b, 0, none⟩)] w fun e w' => e = .returned (.tuple #[.agg #[.int .i64 x.1, .string ⟨#[115]⟩], .string x.2, .int .i64 0]) ∧ Ppair.Past w' base b (mapP pf (undoP m)) ∧ Ppair.Spares w w' ∧ Below base w w' := by
  have := Ppair.undo_calls w base b _ h
  rw [map_undo, map_undoA, hx] at this
  exact this
theorem pair_undo_none (w : World) (base b : Nat) (m : Pst Int) (n : Int) (h : Ppair.Past w base b (mapP pf m)) (hx : undoA m = (none, n)) :
    Calls Try.prog 50 #[.pointer (some ⟨b, 0, none⟩)] w fun e w' => e = .returned (.tuple #[.agg #[.int .i64 0, .string ⟨#[]⟩], .string ⟨#[]⟩, .int .i64 n]) ∧ Ppair.Past w' base b (mapP pf (undoP m)) ∧ Ppair.Spares w w' ∧ Below base w w' := by
  have := Ppair.undo_calls w base b _ h
  rw [map_undo, map_undoA, hx] at this
  exact this
theorem ref_undo_x (w : World) (m : Pst Int) (v : Value) (h : RAt w m v) (a : Option (Int × ByteArray)) (n : Int) (hx : undoA m = (a, n)) :
    Calls Try.prog 44 #[v] w fun e w' => ∃ v' s wd, e = .returned (.tuple #[v', .agg #[.int .i64 s, .string wd], .int .i64 n]) ∧ (∀ x, a = some x → s = x.1 ∧ wd = x.2) ∧ RAt w' (undoP m) v' ∧ (v' = v ∨ NewV w.heap.size v') ∧ Below w.heap.size w w' := by
  have := ref_undo w m v h
  rw [hx] at this
  exact this
theorem int_redo_some (w : World) (base b : Nat) (m : Pst Int) (x : Int × ByteArray) (h : Pint.Past w base b m) (hx : redoA m = (some x, 0)) :
    Calls Try.prog 20 #[.pointer (some ⟨b, 0, none⟩)] w fun e w' => e = .returned (.tuple #[.int .i64 x.1, .string x.2, .int .i64 0]) ∧ Pint.Past w' base b (redoP m) ∧ Pint.Spares w w' ∧ Below base w w' := by
  have := Pint.redo_calls w base b _ h
  rw [hx] at this
  exact this
theorem int_redo_none (w : World) (base b : Nat) (m : Pst Int) (n : Int) (h : Pint.Past w base b m) (hx : redoA m = (none, n)) :
    Calls Try.prog 20 #[.pointer (some ⟨b, 0, none⟩)] w fun e w' => e = .returned (.tuple #[.int .i64 0, .string ⟨#[]⟩, .int .i64 n]) ∧ Pint.Past w' base b (redoP m) ∧ Pint.Spares w w' ∧ Below base w w' := by
  have := Pint.redo_calls w base b _ h
  rw [hx] at this
  exact this
theorem pair_redo_some (w : World) (base b : Nat) (m : Pst Int) (x : Int × ByteArray) (h : Ppair.Past w base b (mapP pf m)) (hx : redoA m = (some x, 0)) :
    Calls Try.prog 51 #[.pointer (some ⟨b, 0, none⟩)] w fun e w' => e = .returned (.tuple #[.agg #[.int .i64 x.1, .string ⟨#[115]⟩], .string x.2, .int .i64 0]) ∧ Ppair.Past w' base b (mapP pf (redoP m)) ∧ Ppair.Spares w w' ∧ Below base w w' := by
  have := Ppair.redo_calls w base b _ h
  rw [map_redo, map_redoA, hx] at this
  exact this
theorem pair_redo_none (w : World) (base b : Nat) (m : Pst Int) (n : Int) (h : Ppair.Past w base b (mapP pf m)) (hx : redoA m = (none, n)) :
    Calls Try.prog 51 #[.pointer (some ⟨b, 0, none⟩)] w fun e w' => e = .returned (.tuple #[.agg #[.int .i64 0, .string ⟨#[]⟩], .string ⟨#[]⟩, .int .i64 n]) ∧ Ppair.Past w' base b (mapP pf (redoP m)) ∧ Ppair.Spares w w' ∧ Below base w w' := by
  have := Ppair.redo_calls w base b _ h
  rw [map_redo, map_redoA, hx] at this
  exact this
theorem ref_redo_x (w : World) (m : Pst Int) (v : Value) (h : RAt w m v) (a : Option (Int × ByteArray)) (n : Int) (hx : redoA m = (a, n)) :
    Calls Try.prog 45 #[v] w fun e w' => ∃ v' s wd, e = .returned (.tuple #[v', .agg #[.int .i64 s, .string wd], .int .i64 n]) ∧ (∀ x, a = some x → s = x.1 ∧ wd = x.2) ∧ RAt w' (redoP m) v' ∧ (v' = v ∨ NewV w.heap.size v') ∧ Below w.heap.size w w' := by
  have := ref_redo w m v h
  rw [hx] at this
  exact this
end Go.Proofs.Ytihfkoomimohbaa
