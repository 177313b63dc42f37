/- Past[string] in memory; the contracts of New, Now, closed. -/
import Derived.Test.YtihfkoomimohbaaProg
import Derived.Test.YtihfkoomimohbaaQ
import Derived.WalkKit
import Derived.Lib.Hide
import Derived.Deep.AppendLies
import Derived.Deep.RegionWith
import Derived.Deep.QuietTactic
import Derived.BigQuiet
import Derived.Below
namespace Go.Proofs.Ytihfkoomimohbaa.Pstring
open Go.RowKit Past17

def turnC (x : ByteArray × ByteArray) : List Value := [.string x.1, .string x.2]
def OpAt (w : World) (base : Nat) : Option (ByteArray × ByteArray × Bool) → Value → Prop
  | none, vo => vo = .pointer none
  | some (s, wd, did), vo => ∃ o, vo = .pointer (some ⟨o, 0, none⟩) ∧ base ≤ o ∧ w.heap[o]? = some (.cells #[.string s, .string wd, .bool did] 92 (0, 0))
structure PAt (w : World) (base b : Nat) (m : Pst ByteArray) (vb va vo : Value) : Prop where
  hb : base ≤ b
  blk : w.heap[b]? = some (.cells #[.string m.st, .int .i64 m.most, vb, va, vo] 88 (0, 0))
  rb : w.ownsRow base 90 2 vb m.back.length (m.back.flatMap turnC)
  ra : w.ownsRow base 90 2 va m.again.length (m.again.flatMap turnC)
  dis : ∀ g, vb.ownBlock = some g → va.ownBlock ≠ some g
  op : OpAt w base m.opn vo
  ok : Ok m
def Past (w : World) (base b : Nat) (m : Pst ByteArray) : Prop := ∃ vb va vo, PAt w base b m vb va vo
/-- whatever is of none of the three types of a past stays -/
def Spares (w w' : World) : Prop := ∀ (g : Nat) (cs : Array Value) (t : TypeId) (fr : Nat × Nat), w.heap[g]? = some (Obj.cells cs t fr) → t ≠ 88 → t ≠ 90 → t ≠ 92 → w'.heap[g]? = some (Obj.cells cs t fr)
theorem Spares.refl (w : World) : Spares w w := fun _ _ _ _ h _ _ _ => h
theorem Spares.trans {a b c : World} (h : Spares a b) (k : Spares b c) : Spares a c := fun g cs t fr e h1 h2 h3 => k g cs t fr (h g cs t fr e h1 h2 h3) h1 h2 h3
theorem Spares.of_below {a b : World} (h : Below a.heap.size a b) : Spares a b := fun g _ _ _ e _ _ _ => (h.block g (Array.getElem?_eq_some_iff.1 e).1).trans e
theorem Spares.of_grown {a b : World} {row : Option Nat} (h : a.grownBy b row) (hr : ∀ g, row = some g → ∃ (cs : Array Value) (t : TypeId) (fr : Nat × Nat), a.heap[g]? = some (Obj.cells cs t fr) ∧ (t = 88 ∨ t = 90 ∨ t = 92)) : Spares a b := fun g cs t fr e h1 h2 h3 => by
  refine (h.block g (Array.getElem?_eq_some_iff.1 e).1 (fun e' => ?_)).trans e
  obtain ⟨cs', t', fr', e2, h4⟩ := hr g e'.symm
  rw [e] at e2; cases e2
  rcases h4 with h4 | h4 | h4
  · exact h1 h4
  · exact h2 h4
  · exact h3 h4
theorem of_cells {w : World} {g : Nat} {cs : Array Value} {t : TypeId} {fr : Nat × Nat} (h : w.heap[g]? = some (.cells cs t fr)) (i : Nat) (v : Value) (hi : cs[i]? = some v) : w.cell? ⟨g, i, none⟩ = some v := by
  simp [World.cell?, h, hi]
theorem no_ice {w : World} {g : Nat} {cs : Array Value} {t : TypeId} (h : w.heap[g]? = some (.cells cs t (0, 0))) (i : Nat) : w.frozen? ⟨g, i, none⟩ = false := by
  simp [World.frozen?, h]
theorem ownsRow_type {w : World} {base : Nat} {e : TypeId} {size n : Nat} {v : Value} {xs : List Value} (h : w.ownsRow base e size v n xs) : ∀ g, v.ownBlock = some g → base ≤ g ∧ ∃ cs, w.heap[g]? = some (.cells cs e (0, 0)) := by
  intro g hg
  rcases h.2 with ⟨rfl, _⟩ | ⟨g', cap, cur, rfl, hb, hg', _⟩
  · cases hg
  · cases hg; exact ⟨hb, _, hg'⟩

/-- W is w but for block b, the rows' blocks, and new blocks -/
structure Moves (w W : World) (b : Nat) (rows : List Value) : Prop where
  os : W.os = w.os
  tape : W.tape = w.tape
  output : W.output = w.output
  size : w.heap.size ≤ W.heap.size
  same : ∀ k, k < w.heap.size → k ≠ b → (∀ v ∈ rows, some k ≠ v.ownBlock) → W.heap[k]? = w.heap[k]?
theorem Moves.refl (w : World) (b : Nat) (rows : List Value) : Moves w w b rows := ⟨rfl, rfl, rfl, Nat.le_refl _, fun _ _ _ _ => rfl⟩
theorem Moves.grown {w A B : World} {b : Nat} {rows : List Value} {row : Option Nat} (h : Moves w A b rows) (hg : A.grownBy B row) (hr : ∀ k, row = some k → w.heap.size ≤ k ∨ k = b ∨ ∃ v ∈ rows, v.ownBlock = some k) : Moves w B b rows :=
  ⟨hg.os.trans h.os, hg.tape.trans h.tape, hg.output.trans h.output, Nat.le_trans h.size hg.size, fun k hk hb hv => by
    refine (hg.block k (Nat.lt_of_lt_of_le hk h.size) (fun e => ?_)).trans (h.same k hk hb hv)
    rcases hr k e.symm with h1 | h1 | ⟨v, hv1, hv2⟩
    · omega
    · exact hb h1
    · exact hv v hv1 hv2.symm⟩
theorem Moves.alloc {w A : World} {b : Nat} {rows : List Value} (h : Moves w A b rows) (o : Obj) : Moves w (A.alloc o) b rows := h.grown (World.grownBy_alloc A o none) (fun k e => by cases e)
theorem Moves.drew {w A : World} {b : Nat} {rows : List Value} (h : Moves w A b rows) : Moves w A.drew b rows := ⟨h.os, h.tape, h.output, h.size, h.same⟩
theorem Moves.set {w A : World} {b i : Nat} {rows : List Value} (h : Moves w A b rows) (v : Value) : Moves w (A.setCell ⟨b, i, none⟩ v) b rows :=
  ⟨h.os, h.tape, h.output, by rw [World.size_setCell]; exact h.size, fun k hk hb hv => (Below.heap_setCell A ⟨b, i, none⟩ v k hb).trans (h.same k hk hb hv)⟩
theorem Moves.below {w A B : World} {b : Nat} {rows : List Value} (h : Moves w A b rows) (hb : Below A.heap.size A B) : Moves w B b rows :=
  h.grown (row := none) ⟨hb.os, hb.tape, hb.output, hb.size, fun k hk _ => hb.block k hk⟩ (fun k e => by cases e)
theorem Moves.row {w W : World} {b : Nat} {rows : List Value} (h : Moves w W b rows) {base : Nat} {e : TypeId} {size n : Nat} {v : Value} {xs : List Value} (hr : w.ownsRow base e size v n xs) (hb : v.ownBlock ≠ some b) (hv : ∀ u ∈ rows, v.ownBlock = none ∨ v.ownBlock ≠ u.ownBlock) : W.ownsRow base e size v n xs := by
  refine ⟨hr.1, ?_⟩
  rcases hr.2 with hn | ⟨g, cap, cur, rfl, h1, hg, rest⟩
  · exact .inl hn
  · refine .inr ⟨g, cap, cur, rfl, h1, (h.same g (Array.getElem?_eq_some_iff.1 hg).1 (fun e => hb (by rw [← e]; rfl)) (fun u hu e => ?_)).trans hg, rest⟩
    rcases hv u hu with h2 | h2
    · cases h2
    · exact h2 e
theorem row_ne {W : World} {B : Nat} {cs : Array Value} {t e : TypeId} (h : W.heap[B]? = some (.cells cs t (0, 0))) (hte : t ≠ e) {base size k : Nat} {v : Value} {xs : List Value} (hr : W.ownsRow base e size v k xs) : some B ≠ v.ownBlock := by
  intro e'
  obtain ⟨_, cs', h'⟩ := ownsRow_type hr B e'.symm
  rw [h] at h'; cases h'; exact hte rfl
theorem PAt.nb {w : World} {base b : Nat} {m : Pst ByteArray} {vb va vo : Value} (h : PAt w base b m vb va vo) : some b ≠ vb.ownBlock := row_ne h.blk (by decide) h.rb
theorem PAt.na {w : World} {base b : Nat} {m : Pst ByteArray} {vb va vo : Value} (h : PAt w base b m vb va vo) : some b ≠ va.ownBlock := row_ne h.blk (by decide) h.ra
theorem PAt.lt {w : World} {base b : Nat} {m : Pst ByteArray} {vb va vo : Value} (h : PAt w base b m vb va vo) : b < w.heap.size := (Array.getElem?_eq_some_iff.1 h.blk).1
theorem Moves.op {w W : World} {base b : Nat} {m : Pst ByteArray} {vb va vo : Value} (hm : Moves w W b [vb, va]) (h : PAt w base b m vb va vo) : OpAt W base m.opn vo := by
  have h1 := h.op
  cases ho : m.opn with
  | none => rw [ho] at h1; exact h1
  | some x =>
    obtain ⟨s, wd, did⟩ := x
    rw [ho] at h1
    obtain ⟨o, e, hb, hc⟩ := h1
    refine ⟨o, e, hb, (hm.same o (Array.getElem?_eq_some_iff.1 hc).1 (fun e' => ?_) (fun v hv => ?_)).trans hc⟩
    · subst e'; rw [h.blk] at hc; cases hc
    · rcases List.mem_cons.1 hv with rfl | hv
      · exact row_ne hc (by decide) h.rb
      · rw [List.mem_singleton.1 hv]; exact row_ne hc (by decide) h.ra
theorem Moves.spares {w W : World} {base b : Nat} {m : Pst ByteArray} {vb va vo : Value} (hm : Moves w W b [vb, va]) (h : PAt w base b m vb va vo) : Spares w W := fun g cs t fr e h1 h2 h3 => by
  refine (hm.same g (Array.getElem?_eq_some_iff.1 e).1 (fun e' => ?_) (fun v hv => ?_)).trans e
  · subst e'; rw [h.blk] at e; cases e; exact h1 rfl
  · have key : ∀ {u : Value} {n : Nat} {xs : List Value}, w.ownsRow base 90 2 u n xs → some g ≠ u.ownBlock := fun hr e' => by
      obtain ⟨_, cs', h'⟩ := ownsRow_type hr g e'.symm
      rw [e] at h'; cases h'; exact h2 rfl
    rcases List.mem_cons.1 hv with rfl | hv
    · exact key h.rb
    · rw [List.mem_singleton.1 hv]; exact key h.ra
theorem Moves.belowB {w W : World} {base b : Nat} {m : Pst ByteArray} {vb va vo : Value} (hm : Moves w W b [vb, va]) (h : PAt w base b m vb va vo) : Below base w W :=
  ⟨hm.os, hm.tape, hm.output, hm.size, fun k hk => hm.same k (by have := h.hb; have := h.lt; omega) (by have := h.hb; omega) (fun v hv e => by
    have key : ∀ {u : Value} {n : Nat} {xs : List Value}, w.ownsRow base 90 2 u n xs → some k ≠ u.ownBlock := fun hr e' => by
      have := (ownsRow_type hr k e'.symm).1; omega
    rcases List.mem_cons.1 hv with rfl | hv
    · exact key h.rb e
    · rw [List.mem_singleton.1 hv] at e; exact key h.ra e)⟩
theorem Moves.wide {w W : World} {b : Nat} {rows rows' : List Value} (h : Moves w W b rows) (hr : ∀ v ∈ rows, v ∈ rows') : Moves w W b rows' := ⟨h.os, h.tape, h.output, h.size, fun k hk hb hv => h.same k hk hb (fun v hv' => hv v (hr v hv'))⟩
theorem PAt.dis' {w : World} {base b : Nat} {m : Pst ByteArray} {vb va vo : Value} (h : PAt w base b m vb va vo) : va.ownBlock = none ∨ va.ownBlock ≠ vb.ownBlock := by
  cases hv : va.ownBlock with
  | none => exact .inl rfl
  | some g => exact .inr (fun e => h.dis g e.symm hv)
theorem PAt.turn {w W : World} {base b : Nat} {m m' : Pst ByteArray} {vb va vo vb' va' vo' : Value} (h : PAt w base b m vb va vo)
    (bW : W.heap[b]? = some (.cells #[.string m'.st, .int .i64 m'.most, vb', va', vo'] 88 (0, 0))) (rb : W.ownsRow base 90 2 vb' m'.back.length (m'.back.flatMap turnC)) (ra : W.ownsRow base 90 2 va' m'.again.length (m'.again.flatMap turnC))
    (fb : ∀ g, vb'.ownBlock = some g → vb.ownBlock = some g ∨ w.heap.size ≤ g) (fa : ∀ g, va'.ownBlock = some g → va.ownBlock = some g ∨ w.heap.size ≤ g) (hone : (∀ g, va'.ownBlock = some g → va.ownBlock = some g) ∨ (∀ g, vb'.ownBlock = some g → vb.ownBlock = some g))
    (op : OpAt W base m'.opn vo') (ok : Ok m') : PAt W base b m' vb' va' vo' := by
  refine ⟨h.hb, bW, rb, ra, fun g h1 h2 => ?_, op, ok⟩
  have la : ∀ k, va.ownBlock = some k → k < w.heap.size := fun k e => (Array.getElem?_eq_some_iff.1 (ownsRow_type h.ra k e).2.choose_spec).1
  have lb : ∀ k, vb.ownBlock = some k → k < w.heap.size := fun k e => (Array.getElem?_eq_some_iff.1 (ownsRow_type h.rb k e).2.choose_spec).1
  rcases fb g h1 with h3 | h3
  · rcases fa g h2 with h4 | h4
    · exact h.dis g h3 h4
    · have := lb g h3; omega
  · rcases fa g h2 with h4 | h4
    · have := la g h4; omega
    · rcases hone with h5 | h5
      · have := la g (h5 g h2); omega
      · have := lb g (h5 g h1); omega
theorem set_row {W : World} {B i : Nat} {cs : Array Value} {t : TypeId} {v : Value} (h : W.heap[B]? = some (.cells cs t (0, 0))) : (W.setCell ⟨B, i, none⟩ v).heap[B]? = some (.cells (cs.setIfInBounds i v) t (0, 0)) := heap_setCell_same W B i cs t v h

theorem new_bad (s : ByteArray) (most : Int) (w : World) (h : most < 0 ∨ 4096 < most) :
    Calls Try.prog 25 #[.string s, .int .i64 most] w fun e w' => e = .returned (.tuple #[.pointer none, .int .i64 2]) ∧ w' = w := by
  go_enter Try.func25, Try.ntmps25
  by_cases h1 : most < 0
  · clear h
    go_wp2_with fail
    go_ret2
    exact ⟨rfl, rfl⟩
  · have h2 : 4096 < most := h.resolve_left h1
    clear h
    go_wp2_with fail
    go_ret2
    exact ⟨rfl, rfl⟩
theorem new_good (s : ByteArray) (most : Nat) (w : World) (h : most ≤ 4096) :
    Calls Try.prog 25 #[.string s, .int .i64 most] w fun e w' => e = .returned (.tuple #[.pointer (some ⟨w.heap.size, 0, none⟩), .int .i64 0]) ∧ w' = w.alloc (.cells #[.string s, .int .i64 most, .slice none 0 0, .slice none 0 0, .pointer none] 88) := by
  go_enter Try.func25, Try.ntmps25
  have h1 : ¬ (most : Int) < 0 := by omega
  have h2 : ¬ 4096 < (most : Int) := by omega
  go_wp2_with fail
  go_ret2
  exact ⟨rfl, rfl⟩

theorem now_calls (b : Nat) (v : ByteArray) (rest : List Value) (w : World) (h : w.heap[b]? = some (.cells (#[.string v] ++ rest.toArray) 88 (0, 0))) :
    Calls Try.prog 28 #[.pointer (some ⟨b, 0, none⟩)] w fun e w' => e = .returned (.string v) ∧ w' = w := by
  have c0 : w.cell? ⟨b, 0, none⟩ = some (.string v) := of_cells h 0 _ (by simp)
  clear h
  go_enter Try.func28, Try.ntmps28
  go_wp2_with fail
  go_ret
  exact ⟨rfl, rfl⟩

theorem opAt_cases {w : World} {base : Nat} {op : Option (ByteArray × ByteArray × Bool)} {vo : Value} (h : OpAt w base op vo) : (op.isSome = false ∧ vo = .pointer none) ∨ (op.isSome = true ∧ ∃ o, vo = .pointer (some ⟨o, 0, none⟩)) := by
  cases op with
  | none => exact .inl ⟨rfl, h⟩
  | some x => obtain ⟨s, wd, did⟩ := x; obtain ⟨o, h1, _⟩ := h; exact .inr ⟨rfl, o, h1⟩
theorem closed_calls (b : Nat) (vo : Value) (c : Bool) (w : World) (h : w.cell? ⟨b, 4, none⟩ = some vo) (ho : (c = false ∧ vo = .pointer none) ∨ (c = true ∧ ∃ o, vo = .pointer (some ⟨o, 0, none⟩))) :
    Calls Try.prog 41 #[.pointer (some ⟨b, 0, none⟩)] w fun e w' => e = .returned (.int .i64 (if c then 171 else 0)) ∧ w' = w := by
  go_enter Try.func41, Try.ntmps41
  rcases ho with ⟨rfl, rfl⟩ | ⟨rfl, o, rfl⟩
  · go_wp2_with fail
    go_ret
    exact ⟨by simp, rfl⟩
  · go_wp2_with fail
    go_ret
    exact ⟨by simp, rfl⟩
end Go.Proofs.Ytihfkoomimohbaa.Pstring
