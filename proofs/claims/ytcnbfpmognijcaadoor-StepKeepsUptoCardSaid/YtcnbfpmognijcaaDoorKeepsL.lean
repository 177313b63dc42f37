/- Rows that are written, and grown past their ends, while other rows stay (plain). -/
import Derived.Test.YtcnbfpmognijcaaDoorKeepsReg
import Derived.Test.YtcnbfpmognijcaaDoorManyB
namespace Go.Proofs.YtcnbfpmognijcaaDoor
open Go.RowKit Go.Shelf Galley Go.Many

theorem others_below {W W' : World} (h : Below W.heap.size W W') : KeepsOthers W W' := ⟨h.size, fun k _ hk _ => (h.block k (Array.getElem?_eq_some_iff.1 hk).1).trans hk⟩
/-- what lies below n stays, and what is no cells -/
structure Stl (n : Nat) (w w' : World) : Prop where
  below : Below n w w'
  others : KeepsOthers w w'
theorem Stl.refl (n : Nat) (w : World) : Stl n w w := ⟨Below.refl _ _, KeepsOthers.refl _⟩
theorem Stl.trans {n : Nat} {a b c : World} (h : Stl n a b) (k : Stl n b c) : Stl n a c := ⟨h.below.trans k.below, h.others.trans k.others⟩
theorem Stl.of_below {n : Nat} {a b : World} (h : Below a.heap.size a b) (hn : n ≤ a.heap.size) : Stl n a b := ⟨h.mono hn, others_below h⟩
theorem Stl.of_grown {n : Nat} {a b : World} {row : Option Nat} (hg : a.grownBy b row) (hn : n ≤ a.heap.size) (hr : ∀ g, row = some g → n ≤ g ∧ ∃ (cs : Array Value) (e : TypeId) (fr : Nat × Nat), a.heap[g]? = some (.cells cs e fr)) : Stl n a b :=
  ⟨(Below.refl _ a).grown hg hn (fun k e => (hr k e).1), KeepsOthers.of_grownBy hg (fun j o e ho => by obtain ⟨_, cs, e', fr, h⟩ := hr j e; rw [h] at ho; cases ho; rfl)⟩

/-- row i holds i's in its first places: all rows below k, row k up to j -/
def OW (n k j i : Nat) (xs : List Value) : Prop := xs.length = n ∧ ∀ t, t < n → (i < k ∨ (i = k ∧ t < j)) → xs[t]? = some (.int .i32 i)
theorem OW.next {n k i : Nat} {xs : List Value} (h : OW n k n i xs) : OW n (k + 1) 0 i xs := ⟨h.1, fun t ht hk => h.2 t ht (by omega)⟩
theorem OW.set {n k j : Nat} {xs : List Value} (h : OW n k j k xs) : OW n k (j + 1) k (xs.set j (.int .i32 k)) := ⟨by rw [List.length_set]; exact h.1, fun t ht hk => by
  have hl := h.1
  rw [List.getElem?_set]
  by_cases e : j = t
  · rw [if_pos e, if_pos (by omega)]
  · rw [if_neg e]; exact h.2 t ht (by omega)⟩
theorem OW.other {n k j i : Nat} {xs : List Value} (h : OW n k j i xs) (hi : i ≠ k) : OW n k (j + 1) i xs := ⟨h.1, fun t ht hk => h.2 t ht (by omega)⟩
theorem OW.all {n i : Nat} {xs : List Value} (h : OW n 5 0 i xs) (hi : i < 5) : xs = List.replicate n (.int .i32 i) := by
  apply List.ext_getElem?
  intro t
  by_cases ht : t < n
  · rw [h.2 t ht (.inl hi), List.getElem?_replicate, if_pos ht]
  · rw [List.getElem?_eq_none (by rw [h.1]; omega), List.getElem?_eq_none (by rw [List.length_replicate]; omega)]

/-- v is u with m more after it, in its block or in a new one -/
def Fro (u v : Value) (n m S : Nat) : Prop := (∃ g cap, u = .slice (some ⟨g, 0, none⟩) n cap ∧ v = .slice (some ⟨g, 0, none⟩) (n + m) cap) ∨ (∀ g, v.ownBlock = some g → S ≤ g)
/-- the rows us, and what k of them have been grown to -/
structure Gro (w : World) (base S n k : Nat) (us gs : List Value) (vG vL : Value) : Prop where
  V : Rw 21 w base us (fun i xs => xs = List.replicate n (.int .i32 i))
  G : Rw 21 w base gs (fun i xs => xs.length = n + 1 ∧ xs[n]? = some (.int .i32 (100 + i)))
  F : ∀ (i j : Nat) (v u : Value) (g : Nat), gs[i]? = some v → us[j]? = some u → v.ownBlock = some g → u.ownBlock = some g → i = j
  A : Apart us
  U : Under us S
  R : w.ownsRow S 33 1 vG k gs
  L : w.ownsRow base 33 1 vL 5 us
  LS : ∀ g, vL.ownBlock = some g → g < S
  z : S ≤ w.heap.size
  b : base ≤ S
theorem Gro.len {w : World} {base S n k : Nat} {us gs : List Value} {vG vL : Value} (h : Gro w base S n k us gs vG vL) : gs.length = k := by have := h.R.1; omega
theorem Gro.below {w w' : World} {base S n k : Nat} {us gs : List Value} {vG vL : Value} (h : Gro w base S n k us gs vG vL) (hb : Below w.heap.size w w') : Gro w' base S n k us gs vG vL :=
  ⟨h.V.below hb, h.G.below hb, h.F, h.A, h.U, own_stays h.R (fun g e => hb.block g (own_here h.R e).2.1), own_stays h.L (fun g e => hb.block g (own_here h.L e).2.1), h.LS, Nat.le_trans h.z hb.size, h.b⟩

/-- one element more to what grows out of row k -/
theorem Gro.app {w w' : World} {base S S' n m k : Nat} {us gs xs : List Value} {vG vL u v v' y : Value} (st : Gro w base S n k us gs vG vL) (hi : us[k]? = some u) (hS : S ≤ S') (hSw : S' ≤ w.heap.size) (hG : Under gs S')
    (hR : w.ownsRow base 21 1 v (n + m) xs) (hC : Fro u v n m S') (hown : w'.ownsRow base 21 1 v' (n + m + 1) (xs ++ [y]))
    (hcase : (∃ g cap, v = .slice (some ⟨g, 0, none⟩) (n + m) cap ∧ v' = .slice (some ⟨g, 0, none⟩) (n + m + 1) cap ∧ w.grownBy w' (some g)) ∨ (w.grownBy w' none ∧ ∃ g cap, v' = .slice (some ⟨g, 0, none⟩) (n + m + 1) cap ∧ w.heap.size ≤ g)) :
    Gro w' base S n k us gs vG vL ∧ Fro u v' n (m + 1) S' ∧ Stl base w w' := by
  have hz := st.z
  have hb := st.b
  rcases hcase with ⟨g, cap, hv, hv', hg⟩ | ⟨hg, g, cap, hv', hge⟩
  · subst hv hv'
    obtain ⟨gb, gl, gcs, gc⟩ := own_here hR (g := g) rfl
    have hbut : But 21 w w' := But.of_grown hg (fun g' e => by cases e; exact ⟨gcs, _, gc⟩)
    have hst : Stl base w w' := Stl.of_grown hg (by omega) (fun g' e => by cases e; exact ⟨gb, gcs, _, _, gc⟩)
    refine ⟨⟨?_, ?_, st.F, st.A, st.U, but_row hbut (by decide) st.R, but_row hbut (by decide) st.L, st.LS, by have := hg.size; omega, hb⟩, ?_, hst⟩
    · rcases hC with ⟨g0, cap0, hk0, hv0⟩ | hfar
      · cases hv0
        rw [hk0] at hi
        obtain ⟨xsk, hxk, hFk⟩ := st.V _ _ hi
        have hlk := own_len hxk
        rw [hlk] at hxk
        refine st.V.one st.A hi rfl hg ⟨xsk, ?_, hFk⟩ (fun _ _ _ h => h)
        have h1 := own_prefix hown (show n ≤ n + m + 1 by omega)
        have h2 := own_same hR hxk (by omega)
        have hxl : xs.length = n + m := by have := hR.1; omega
        rw [List.take_append_of_le_length (by omega), h2] at h1
        rw [hlk]; exact h1
      · exact st.V.far hg (fun i v g' hi hv e => by
          cases e
          have h1 := st.U i v g hi hv
          have h2 := hfar g rfl
          omega)
    · rcases hC with ⟨g0, cap0, hk0, hv0⟩ | hfar
      · cases hv0
        refine st.G.far hg (fun i v g' hi' hv e => ?_)
        cases e
        have h1 := st.F i k v u g hi' hi hv (by rw [hk0]; rfl)
        have h2 := (List.getElem?_eq_some_iff.1 hi').1
        have h3 := st.len
        omega
      · exact st.G.far hg (fun i v g' hi' hv e => by
          cases e
          have h1 := hG i v g hi' hv
          have h2 := hfar g rfl
          omega)
    · rcases hC with ⟨g0, cap0, hk0, hv0⟩ | hfar
      · cases hv0; exact .inl ⟨g, cap, hk0, rfl⟩
      · exact .inr (fun g' e => by cases e; exact hfar g rfl)
  · subst hv'
    have hbut : But 21 w w' := But.of_grown hg (fun g' e => by cases e)
    refine ⟨⟨st.V.far hg (fun _ _ _ _ _ e => by cases e), st.G.far hg (fun _ _ _ _ _ e => by cases e), st.F, st.A, st.U, but_row hbut (by decide) st.R, but_row hbut (by decide) st.L, st.LS, by have := hg.size; omega, hb⟩, .inr (fun g' e => ?_), Stl.of_grown hg (by omega) (fun g' e => by cases e)⟩
    have e' : g = g' := by simpa [Value.ownBlock] using e
    omega

/-- and the grown row laid beside the others -/
theorem Gro.push {w w' : World} {base S S' n k : Nat} {us gs xs : List Value} {vG vG' vL u v : Value} (st : Gro w base S n k us gs vG vL) (hi : us[k]? = some u) (hS : S ≤ S')
    (hR : w.ownsRow base 21 1 v (n + 1) (xs ++ [.int .i32 (100 + (k : Int))])) (hC : Fro u v n 1 S') (hown : w'.ownsRow S 33 1 vG' (k + 1) (gs ++ [v]))
    (hcase : (∃ g cap, vG = .slice (some ⟨g, 0, none⟩) k cap ∧ vG' = .slice (some ⟨g, 0, none⟩) (k + 1) cap ∧ w.grownBy w' (some g)) ∨ (w.grownBy w' none ∧ ∃ g cap, vG' = .slice (some ⟨g, 0, none⟩) (k + 1) cap ∧ w.heap.size ≤ g)) :
    Gro w' base S n (k + 1) us (gs ++ [v]) vG' vL ∧ Stl base w w' := by
  have hz := st.z
  have hb := st.b
  have hgl := st.len
  obtain ⟨hbut, hsz, _⟩ := two_but st.R hcase
  have hxl : (xs ++ [Value.int .i32 (100 + (k : Int))]).length = n + 1 := by have := hR.1; omega
  have hL : w'.ownsRow base 33 1 vL 5 us := own_stays st.L (fun g e => by
    have h1 := own_here st.L e
    have h2 := st.LS g e
    rcases hcase with ⟨g', cap, hv, _, hg⟩ | ⟨hg, _⟩
    · have h3 := (own_here st.R (g := g') (by rw [hv]; rfl)).1
      exact hg.block g h1.2.1 (fun e => by cases e; omega)
    · exact hg.block g h1.2.1 (fun e => by cases e))
  have hst : Stl base w w' := by
    rcases hcase with ⟨g', cap, hv, _, hg⟩ | ⟨hg, _⟩
    · obtain ⟨h3, _, cs, h4⟩ := own_here st.R (g := g') (by rw [hv]; rfl)
      exact Stl.of_grown hg (by omega) (fun g e => by cases e; exact ⟨by omega, cs, _, _, h4⟩)
    · exact Stl.of_grown hg (by omega) (fun g e => by cases e)
  have hV := rw_but st.V hbut (by decide)
  have hG := rw_but st.G hbut (by decide)
  have hR' := but_row hbut (e' := 21) (by decide) hR
  refine ⟨⟨hV, hG.snoc (by rw [hxl]; exact hR') ⟨hxl, ?_⟩, ?_, st.A, st.U, hown, hL, st.LS, by omega, hb⟩, hst⟩
  · have : xs.length = n := by simpa using hxl
    rw [hgl, List.getElem?_append_right (by omega), this, Nat.sub_self]; rfl
  · intro i j v1 u1 g hi1 hj1 hv1 hu1
    rcases Nat.lt_trichotomy i gs.length with hl | hl | hl
    · rw [List.getElem?_append_left hl] at hi1
      exact st.F i j v1 u1 g hi1 hj1 hv1 hu1
    · subst hl
      rw [List.getElem?_append_right (Nat.le_refl _)] at hi1
      simp at hi1
      subst hi1
      rw [hgl]
      rcases hC with ⟨g0, cap0, hk0, hv0⟩ | hfar
      · have e1 : g0 = g := by rw [hv0] at hv1; simpa [Value.ownBlock] using hv1
        subst e1
        exact st.A k j u u1 g0 hi hj1 (by rw [hk0]; rfl) hu1
      · have h1 := hfar g hv1
        have h2 := st.U j u1 g hj1 hu1
        omega
    · rw [List.getElem?_eq_none (by simp; omega)] at hi1; cases hi1

/-- gone(step.All(b)); the list of steps is new -/
theorem gone_all2 (B0 : Nat) (s : ByteArray) (hs : s.size ≤ 1073741824) (w : World) (hc : w.cell? ⟨B0, 0, none⟩ = some (.string s)) (hg : BadLies w) :
    Calls Tryd.prog 14 #[.func (.func 32) #[] #[.pointer (some ⟨B0, 0, none⟩)]] w fun e W' => ∃ A1 c1 A2 c2, e = .returned (.tuple #[.slice A1 (posL s).length c1, .slice A2 (posL s).length c2]) ∧ Gave W' s (posL s) A1 A2 ∧ Below w.heap.size w W' ∧ ∀ g, A2 = some ⟨g, 0, none⟩ → w.heap.size ≤ g := by
  refine callsIn_wide.1 ((gone_in 32 #[.pointer (some ⟨B0, 0, none⟩)] (enters_of Tryd.func32 (by kernel_rfl) rfl) s w.heap.size (posL s) (by have := posL_length s; omega) _ w (all_stops B0 w.heap.size s w hc (World.block_lt_of_cell? w _ hc) hg hg.lt (Nat.le_refl _)) (Nat.le_refl _)).mono ?_)
  rintro e W' ⟨v1, v2, rfl, h1, h2, hb⟩
  obtain ⟨A1, c1, A2, c2, rfl, rfl, hG⟩ := gave_of h1 h2
  exact ⟨A1, c1, A2, c2, rfl, hG, hb, fun g e => (own_here h2 (g := g) (by rw [e]; rfl)).1⟩
theorem StepsAt.off {w w' : World} {A : Option Addr} {s : ByteArray} {l : List Nat} (h : StepsAt w A s l) (hs : ∀ g, A = some ⟨g, 0, none⟩ → w'.heap[g]? = w.heap[g]?) : StepsAt w' A s l := fun j q hj => by
  obtain ⟨g, e, h1, h2, h3⟩ := h j q hj
  exact ⟨g, e, (World.cell?_of_block (a := ⟨g, _, none⟩) (hs g e)).trans h1, (World.cell?_of_block (a := ⟨g, _, none⟩) (hs g e)).trans h2, (World.cell?_of_block (a := ⟨g, _, none⟩) (hs g e)).trans h3⟩
theorem results_box {P : Program} {fn : Func} {p : Tmp} {ty : TypeId} (h : fn.results = #[.cell p ty]) (tmps : Array Value) (w : World) (g : Nat) (t : TypeId) (v : Value) (d : TypeDesc)
    (hp : tmps.getD p undef = .pointer (some ⟨g, 0, none⟩)) (hb : Boxed w g t v) (hu : P.underlying ty = some d) (hd : (match d with | .struct _ | .array _ _ => true | _ => false) = false) :
    (results fn tmps).run P w = .ok v w := by
  have hp' : tmps[p]?.getD undef = .pointer (some ⟨g, 0, none⟩) := by simpa using hp
  have hagg : (isAgg ty).run P w = .ok false w := by
    unfold isAgg
    rw [Sem.run_bind, run_underlying hu w]
    cases d <;> simp_all
  have hc := hb.cell
  simp [results, h, hp', asAddr, loadVar, Sem.run_bind, hagg, hc]
end Go.Proofs.YtcnbfpmognijcaaDoor
