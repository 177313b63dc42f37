/- The contract of the statements' gone: what an iterator gives, in two lists. -/
import Derived.Test.YtcnbfpmognijcaaDoorGone
namespace Go.Proofs.YtcnbfpmognijcaaDoor
open Go.RowKit Go.Shelf Galley Go.Proofs.YtcnbfpmognijcaaDoorW.PrintWords
attribute [local go_sem] Oper.semAt_some

def stepCells (s : ByteArray) (p : Nat) : List Value := [.int .i32 (rune s p), .int .i64 (width s p), .bool (whole s p)]
def placeV (p : Nat) : Value := .int .i64 p

theorem follows : Tryd.prog.follows .mixedOrders = true := by kernel_rfl
theorem keptK_b {n₀ : Nat} {w : World} (h : n₀ ≤ w.heap.size) (W : World) (l : Nat) (o o' : Obj) (hl : w.heap.size ≤ l) (ho : W.heap[l]? = some o) (hc : o.isCells = false) (hw : o.isWalk = false) : Kept n₀ W (W.putObj l o') :=
  ⟨belowK_b h W l o o' hl ho hc hw, walksK_b W l o o' hl ho hc hw⟩

set_option maxRecDepth 100000 in
set_option maxHeartbeats 2000000 in
theorem gone_in (gf : Nat) (lb : Array Value) (eg : ∀ args w, (callFunc gf args).run Tryd.prog w = .ok (.enter gf args) w) (s : ByteArray) (n₀ : Nat) (xs : List Nat) (hx : xs.length ≤ 1073741824) (Sp : List Nat → Prop) (w : World)
    (hseq : SeqStopsK Fence.wide 2 Tryd.prog gf lb (stepEncs s) (Kept n₀) (fun ys => ys = xs) Sp xs.length w) (hn : n₀ ≤ w.heap.size) :
    CallsIn Fence.wide 3 Tryd.prog 14 #[.func (.func gf) #[] lb] w fun e W' => ∃ v1 v2, e = .returned (.tuple #[v1, v2]) ∧
      W'.ownsRow w.heap.size 3 1 v1 xs.length (xs.map placeV) ∧ W'.ownsRow w.heap.size 32 3 v2 xs.length (xs.flatMap (stepCells s)) ∧ Below w.heap.size w W' := by
  refine callsIn_of_wp_marks Tryd.func14 rfl trivial ?_ rfl
  simp only [Tryd.ntmps14, List.size_toArray, List.length_cons, List.length_nil, Nat.reduceAdd, Nat.reduceSub, Array.replicate_succ, Array.replicate_zero, List.push_toArray, List.append_toArray, List.nil_append, List.cons_append]
  gi_wp2
  have bP := (Boxed.new w 35 (.slice none 0 0)).alloc (.cells #[.slice none 0 0] 36)
  have bS := Boxed.new (w.alloc (.cells #[.slice none 0 0] 35)) 36 (.slice none 0 0)
  rw [World.size_alloc] at bS
  have hB0 : Below w.heap.size w ((w.alloc (.cells #[.slice none 0 0] 35)).alloc (.cells #[.slice none 0 0] 36)) := ((Below.refl _ w).alloc (Nat.le_refl _) _).alloc (by simp) _
  obtain ⟨W0, hW0⟩ : ∃ W0, (w.alloc (.cells #[.slice none 0 0] 35)).alloc (.cells #[.slice none 0 0] 36) = W0 := ⟨_, rfl⟩
  have hsz : W0.heap.size = w.heap.size + 2 := by rw [← hW0]; simp
  rw [hW0] at bP bS hB0 ⊢
  clear hW0
  refine wpIn_rangeFunc_ownH rfl (by decide) (gf := gf) (lb := lb) rfl trivial eg hseq (fun h k => kept_t h k) (keptK_b (by omega)) hB0 (fun _ => rfl)
    (fun (pre : List Nat) W => ((∃ v, Boxed W w.heap.size 35 v ∧ W.ownsRow w.heap.size 3 1 v pre.length (pre.map placeV) ∧ True) ∧ (∃ v, Boxed W (w.heap.size + 1) 36 v ∧ W.ownsRow w.heap.size 32 3 v pre.length (pre.flatMap (stepCells s)) ∧ True)) ∧ Below w.heap.size w W)
    (fun _ _ _ => False)
    (OwnFrom.and (OwnFrom.and (Own.from (holdsRow_own w.heap.size w.heap.size 35 3 1 (fun (pre : List Nat) => pre.length) (fun pre => pre.map placeV) (fun _ _ => True)) _) (Own.from (holdsRow_own w.heap.size (w.heap.size + 1) 36 32 3 (fun (pre : List Nat) => pre.length) (fun pre => pre.flatMap (stepCells s)) (fun _ _ => True)) _)) (ownFrom_below (Nat.le_refl _) (by omega)))
    (fun _ _ _ _ _ hs _ _ => hs)
    ⟨⟨⟨_, bP, World.ownsRow_nil _ _ _ _, trivial⟩, ⟨_, bS, World.ownsRow_nil _ _ _ _, trivial⟩⟩, hB0⟩
    (fun x a' W => ∃ Bx v, w.heap.size + 1 < Bx ∧ W.heap[Bx]? = some (.cells #[.int .i32 (rune s x), .int .i64 (width s x), .bool (whole s x)] 32 (0, 0)) ∧ Boxed W (w.heap.size + 1) 36 v ∧ some Bx ≠ v.ownBlock ∧
      a' = goneF (.func (.func gf) #[] lb) w.heap.size (w.heap.size + 1) Bx x (.agg #[.int .i32 (rune s x), .int .i64 (width s x), .bool (whole s x)]) undef undef undef undef undef undef undef undef)
    ?ax ?assign ?body ?done ?stop
  case ax =>
    rintro x a' _ X Y row ⟨Bx, v, q1, q2, q3, q4, q5⟩ hg hr
    refine ⟨Bx, v, q1, ?_, boxed_own (w.heap.size + 1) 36 (fun (_ : Unit) => v) () X Y row q3 hg (fun r e => (hr r e).2), q4, q5⟩
    refine (hg.block Bx (Array.getElem?_eq_some_iff.1 q2).1 (fun e' => ?_)).trans q2
    obtain ⟨_, o, ho, hc⟩ := hr Bx e'.symm
    rw [q2] at ho; cases ho; cases hc
  case assign =>
    rintro l pre x W K ⟨⟨⟨v1, bP1, r1, _⟩, ⟨v2, bS1, r2, _⟩⟩, hB1⟩ hK
    simp only [stepEncs]
    gi_wp2
    have hsz2 := bS1.lt
    refine hK _ _ ((KeepsOthers.alloc _ _).from _) ⟨(Below.refl _ W).alloc (by have := hB1.size; omega) _, (KeepsOthers.alloc W _).walks⟩ ⟨⟨⟨v1, bP1.alloc _, r1.alloc _, trivial⟩, ⟨v2, bS1.alloc _, r2.alloc _, trivial⟩⟩, hB1.alloc hB1.size _⟩ ⟨W.heap.size, v2, hsz2, World.alloc_heap_new W _, bS1.alloc _, fun e => ?_, rfl⟩
    have := own_lt r2 _ e.symm
    omega
  case body =>
    rintro l pre x a' W hl hr ⟨⟨⟨v1, bP1, r1, _⟩, ⟨v2, bS1, r2, _⟩⟩, hB1⟩ ⟨Bx, v, q1, q2, q3, q4, rfl⟩ hlt
    obtain rfl : v = v2 := by
      have := q3.symm.trans bS1
      simpa using this
    unfold goneF
    gi_wp2
    refine wpIn_region_any follows ?_
    refine wpAnyIn_inv (ops := goneOps) (RJ (.func (.func gf) #[] lb) W w.heap.size w.heap.size (w.heap.size + 1) Bx x (rune s x) (width s x) (whole s x) v1 v pre.length (pre.map placeV) (pre.flatMap (stepCells s))) ?dn (gone_step (by omega) hB1.size q4 (by omega) (by omega) (by omega) (Nat.le_refl _) (by omega)) _ _ _ _ (by decide) ?init
    case init =>
      refine ⟨false, false, false, false, false, false, false, false, false, false, undef, undef, undef, undef, undef, undef, undef, undef, rfl, rfl, RI.drew ?_⟩
      exact { bP := bP1, bS := bS1, bX := q2, r1 := fun _ => r1, r1' := fun e => (by cases e), r2 := fun _ => r2, r2' := fun e => (by cases e), h0 := fun e => (by cases e), h1 := fun e => (by cases e), h2 := fun e => (by cases e), h4 := fun e => (by cases e), h5 := fun e => (by cases e), h6 := fun e => (by cases e), o8 := fun e => (by cases e), o9 := fun e => (by cases e), bel := Below.refl _ _, kep := KeepsOthers.refl _ }
    case dn =>
      rintro L a w2 ⟨b0, b1, b2, b3, b4, b5, b6, b7, b8, b9, x11, x12, x13, x14, x15, x16, x17, x18, rfl, rfl, h⟩ hdone
      obtain ⟨rfl, rfl, rfl, rfl⟩ := gone_done _ _ _ _ _ _ _ _ _ _ hdone
      have g1 := h.r1' rfl
      have g2 := h.r2' rfl
      have e1 := h.bP
      have e2 := h.bS
      simp only [if_true] at e1 e2
      refine ⟨h.kep.from _, ⟨h.bel.mono hn, h.kep.walks⟩, ⟨⟨⟨x14, e1, ?_, trivial⟩, ⟨x18, e2, ?_, trivial⟩⟩, hB1.trans h.bel⟩⟩
      · simpa [placeV] using g1
      · simpa [stepCells] using g2
  case done =>
    rintro D ys W hD rfl ⟨⟨⟨v1, bP1, r1, _⟩, ⟨v2, bS1, r2, _⟩⟩, hB1⟩ hK
    have c1 := bP1.cell
    have c2 := bS1.cell
    gi_wp2
    gi_region
    all_goals gi_wp2
    have hK2 : W.drew.heap[D]? = some (.deferred (some [])) := hK
    refine ⟨by simp, .inl ⟨_, _, rfl, run_takeDeferred hK2, ?_⟩⟩
    refine ⟨.tuple #[v1, v2], by simp [results, Tryd.results14, go_sem], v1, v2, rfl, ownsRow_putObj (W := W.drew) r1 _ hK2 rfl, ownsRow_putObj (W := W.drew) r2 _ hK2 rfl, ?_⟩
    exact hB1.drew.trans (belowK_b (w := w) (Nat.le_refl _) W.drew D _ _ (by omega) hK2 rfl rfl)
  case stop =>
    rintro D c pre W _ _ h _
    exact h.elim
end Go.Proofs.YtcnbfpmognijcaaDoor
