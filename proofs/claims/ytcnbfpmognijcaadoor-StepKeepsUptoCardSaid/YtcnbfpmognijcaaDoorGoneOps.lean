/- The statements' gone: its two appends, whatever order is drawn: the invariant. -/
import Derived.Test.YtcnbfpmognijcaaDoorRegion
namespace Go.Proofs.YtcnbfpmognijcaaDoor
open Go.RowKit Go.Shelf Galley Go.Proofs.YtcnbfpmognijcaaDoorW.PrintWords
attribute [local go_sem] Oper.semAt_some

theorem wpIn_append {F : Fence} {n : Nat} {P : Program} (w : World) {o : Oper} {a : Act} {K : Act → World → Prop} {Q : Exit → Act → World → Prop}
    (s x : Operand) (t : TypeId) (hop : o.op = Op.call { callee := Callee.builtin Builtin.append, args := #[s, x], argTypes := #[t, t] })
    (base : Nat) (e : TypeId) (i : TypeInfo) (z : Value) (size bytes : Nat) (h1 : P.underlying t = some (.slice e)) (h2 : P.info? e = some i) (h3 : i.zero = some z) (h4 : i.size = size) (h5 : i.bytes = bytes) (h6 : z.cells.size = size) (h7 : 0 < size)
    (v : Value) (k : Nat) (xs : List Value) (hs : a.eval s = v) (hown : w.ownsRow base e size v k xs) (ad : Addr) (m c : Nat) (news : List Value) (hx : a.eval x = .slice (some ad) m c) (hn : news.length = m * size)
    (hc : ∀ j u, news[j]? = some u → w.cell? (ad.add j) = some u) (h1c : ∀ u ∈ news, u.oneCell' = true) (b1 : k + m ≤ maxLen) (b2 : (k + m) * bytes ≤ 140737488355328) (b3 : base ≤ w.heap.size)
    (hK : ∀ v' w', w'.ownsRow base e size v' (k + m) (xs ++ news) → w.grownBy w' v.ownBlock → K (a.put o.dst v') w') :
    o.wpIn F n P a w K Q := by
  obtain ⟨v', w', hrun, r1, r2, _⟩ := run_append_own (P := P) w base t o.type e i z size bytes h1 h2 h3 h4 h5 h6 h7 v k xs hown ad m c news hn hc h1c b1 b2 b3
  unfold Oper.wpIn
  refine ⟨?_, ?_⟩
  · simp [Oper.about, hop, resolve, Target.leads, Sem.run_pure]
  · rw [Oper.semAt_plain F _ _ (by rw [hop]; intro c hc'; cases hc')]
    simp [execOp, hop, resolve, invoke, builtin, hs, hx, hrun, Result.andThen]
    exact hK v' w' r1 r2

/-- a row of an element type is no block of another -/
theorem row_ne {W : World} {B : Nat} {cs : Array Value} {t e : TypeId} (h : W.heap[B]? = some (.cells cs t (0, 0))) (hte : t ≠ e) {base size k : Nat} {v : Value} {xs : List Value} (hr : W.ownsRow base e size v k xs) : some B ≠ v.ownBlock := by
  rcases hr.2 with ⟨rfl, _⟩ | ⟨g, cap, cur, rfl, _, hgb, _⟩
  · simp [Value.ownBlock]
  · intro e'
    obtain rfl : B = g := by simpa [Value.ownBlock] using e'
    have := h.symm.trans hgb
    simp at this
    exact hte this.2
theorem rows_ne {W : World} {base base' size size' e e' k k' : Nat} {v v' : Value} {xs xs' : List Value} (h : W.ownsRow base e size v k xs) (h' : W.ownsRow base' e' size' v' k' xs') (hne : e ≠ e') : v.ownBlock = none ∨ v.ownBlock ≠ v'.ownBlock := by
  rcases h.2 with ⟨rfl, _⟩ | ⟨g, cap, cur, rfl, _, hgb, _⟩
  · exact .inl rfl
  · exact .inr (row_ne hgb hne h')
theorem infoInt : (Tryd.prog.info? 3).map (fun i => (i.zero, i.size, i.bytes)) = some (some (.int .i64 0), 1, 8) := by kernel_rfl
theorem infoStep : (Tryd.prog.info? 32).map (fun i => (i.zero, i.size, i.bytes)) = some (some (.agg #[.int .i32 0, .int .i64 0, .bool false]), 3, 24) := by kernel_rfl

/-- the frame inside the region -/
def goneF (f : Value) (BP BS Bx : Nat) (p : Int) (sv x11 x12 x13 x14 x15 x16 x17 x18 : Value) : Act :=
  { tmps := #[f, undef, .slice none 0 0, .slice none 0 0, .pointer (some ⟨BP, 0, none⟩), .pointer (some ⟨BS, 0, none⟩), .int .i64 p, .pointer (some ⟨Bx, 0, none⟩), f, .int .i64 p, sv, x11, x12, x13, x14, x15, x16, x17, x18, undef, undef], defers := [] }

/-- what holds while the two appends are under way: bi: has operation i been done? -/
structure RI (W : World) (n0 BP BS Bx : Nat) (p r wd : Int) (wh : Bool) (v1 v2 : Value) (k : Nat) (xs1 xs2 : List Value) (b0 b1 b2 b3 b4 b5 b6 b7 b8 b9 : Bool) (x11 x12 x13 x14 x15 x16 x17 x18 : Value) (w : World) : Prop where
  bP : Boxed w BP 35 (if b8 then x14 else v1)
  bS : Boxed w BS 36 (if b9 then x18 else v2)
  bX : w.heap[Bx]? = some (.cells #[.int .i32 r, .int .i64 wd, .bool wh] 32 (0, 0))
  r1 : b3 = false → w.ownsRow n0 3 1 v1 k xs1
  r1' : b3 = true → w.ownsRow n0 3 1 x14 (k + 1) (xs1 ++ [.int .i64 p])
  r2 : b7 = false → w.ownsRow n0 32 3 v2 k xs2
  r2' : b7 = true → w.ownsRow n0 32 3 x18 (k + 1) (xs2 ++ [.int .i32 r, .int .i64 wd, .bool wh])
  h0 : b0 = true → x11 = v1
  h1 : b1 = true → x12 = .int .i64 p
  h2 : b2 = true → b3 = false → ∃ g, x13 = .slice (some ⟨g, 0, none⟩) 1 1 ∧ w.cell? ⟨g, 0, none⟩ = some (.int .i64 p)
  h4 : b4 = true → x15 = v2
  h5 : b5 = true → x16 = .agg #[.int .i32 r, .int .i64 wd, .bool wh]
  h6 : b6 = true → b7 = false → ∃ g, x17 = .slice (some ⟨g, 0, none⟩) 1 1 ∧ w.heap[g]? = some (.cells #[.int .i32 r, .int .i64 wd, .bool wh] 32 (0, 0))
  o8 : b8 = true → b0 = true ∧ b3 = true
  o9 : b9 = true → b4 = true ∧ b7 = true
  bel : Below n0 W w
  kep : KeepsOthers W w

def RJ (f : Value) (W : World) (n0 BP BS Bx : Nat) (p r wd : Int) (wh : Bool) (v1 v2 : Value) (k : Nat) (xs1 xs2 : List Value) (L : Array Bool) (a : Act) (w : World) : Prop :=
  ∃ b0 b1 b2 b3 b4 b5 b6 b7 b8 b9 x11 x12 x13 x14 x15 x16 x17 x18, L = #[b0, b1, b2, b3, b4, b5, b6, b7, b8, b9] ∧ a = goneF f BP BS Bx p (.agg #[.int .i32 r, .int .i64 wd, .bool wh]) x11 x12 x13 x14 x15 x16 x17 x18 ∧
    RI W n0 BP BS Bx p r wd wh v1 v2 k xs1 xs2 b0 b1 b2 b3 b4 b5 b6 b7 b8 b9 x11 x12 x13 x14 x15 x16 x17 x18 w

section
variable {w w' : World} {n0 e size k : Nat} {v : Value} {xs : List Value}
theorem heap_over (ho : w.ownsRow n0 e size v k xs) (hg : w.grownBy w' v.ownBlock) {B : Nat} {cs : Array Value} {t : Nat} (h : w.heap[B]? = some (.cells cs t (0, 0))) (hte : t ≠ e) : w'.heap[B]? = some (.cells cs t (0, 0)) :=
  (hg.block B (Array.getElem?_eq_some_iff.1 h).1 (row_ne h hte ho)).trans h
theorem rows_over (ho : w.ownsRow n0 e size v k xs) (hg : w.grownBy w' v.ownBlock) {base' e' size' k' : Nat} {v' : Value} {xs' : List Value} (h : w.ownsRow base' e' size' v' k' xs') (hne : e' ≠ e) : w'.ownsRow base' e' size' v' k' xs' :=
  h.kept hg (rows_ne h ho hne)
theorem below_over (ho : w.ownsRow n0 e size v k xs) (hg : w.grownBy w' v.ownBlock) {W : World} (h : Below n0 W w) (hn : n0 ≤ w.heap.size) : Below n0 W w' := h.grown hg hn (own_base ho)
theorem kept_over (ho : w.ownsRow n0 e size v k xs) (hg : w.grownBy w' v.ownBlock) {W : World} (h : KeepsOthers W w) : KeepsOthers W w' :=
  h.trans (KeepsOthers.of_grownBy hg fun j o ej hj => by
    obtain ⟨cells, hc⟩ := own_typed ho j ej
    rw [hc] at hj; cases hj; rfl)
end
section
variable {W : World} {n0 BP BS Bx : Nat} {p r wd : Int} {wh : Bool} {v1 v2 : Value} {k : Nat} {xs1 xs2 : List Value} {b0 b1 b2 b3 b4 b5 b6 b7 b8 b9 : Bool} {x11 x12 x13 x14 x15 x16 x17 x18 : Value} {w : World}
theorem RI.alloc (h : RI W n0 BP BS Bx p r wd wh v1 v2 k xs1 xs2 b0 b1 b2 b3 b4 b5 b6 b7 b8 b9 x11 x12 x13 x14 x15 x16 x17 x18 w) (hn : n0 ≤ w.heap.size) (o : Obj) :
    RI W n0 BP BS Bx p r wd wh v1 v2 k xs1 xs2 b0 b1 b2 b3 b4 b5 b6 b7 b8 b9 x11 x12 x13 x14 x15 x16 x17 x18 (w.alloc o) where
  bP := h.bP.alloc o
  bS := h.bS.alloc o
  bX := (Below.heap_alloc w o _ (Array.getElem?_eq_some_iff.1 h.bX).1).trans h.bX
  r1 := fun e => (h.r1 e).alloc o
  r1' := fun e => (h.r1' e).alloc o
  r2 := fun e => (h.r2 e).alloc o
  r2' := fun e => (h.r2' e).alloc o
  h0 := h.h0
  h1 := h.h1
  h2 := fun e f => by obtain ⟨g, e1, e2⟩ := h.h2 e f; exact ⟨g, e1, cell_kept e2 (World.grownBy_alloc w o none) (fun r e => by cases e)⟩
  h4 := h.h4
  h5 := h.h5
  h6 := fun e f => by obtain ⟨g, e1, e2⟩ := h.h6 e f; exact ⟨g, e1, (Below.heap_alloc w o _ (Array.getElem?_eq_some_iff.1 e2).1).trans e2⟩
  o8 := h.o8
  o9 := h.o9
  bel := h.bel.alloc hn o
  kep := h.kep.trans (KeepsOthers.alloc w o)
theorem RI.drew (h : RI W n0 BP BS Bx p r wd wh v1 v2 k xs1 xs2 b0 b1 b2 b3 b4 b5 b6 b7 b8 b9 x11 x12 x13 x14 x15 x16 x17 x18 w) :
    RI W n0 BP BS Bx p r wd wh v1 v2 k xs1 xs2 b0 b1 b2 b3 b4 b5 b6 b7 b8 b9 x11 x12 x13 x14 x15 x16 x17 x18 w.drew where
  bP := h.bP
  bS := h.bS
  bX := h.bX
  r1 := h.r1
  r1' := h.r1'
  r2 := h.r2
  r2' := h.r2'
  h0 := h.h0
  h1 := h.h1
  h2 := h.h2
  h4 := h.h4
  h5 := h.h5
  h6 := h.h6
  o8 := h.o8
  o9 := h.o9
  bel := h.bel.drew
  kep := h.kep.trans (KeepsOthers.drew w)
/-- behind the append to the places -/
theorem RI.app1 {w' : World} {y : Value} (h : RI W n0 BP BS Bx p r wd wh v1 v2 k xs1 xs2 b0 b1 b2 false b4 b5 b6 b7 b8 b9 x11 x12 x13 x14 x15 x16 x17 x18 w) (hn : n0 ≤ w.heap.size)
    (hown : w'.ownsRow n0 3 1 y (k + 1) (xs1 ++ [.int .i64 p])) (hg : w.grownBy w' v1.ownBlock) :
    RI W n0 BP BS Bx p r wd wh v1 v2 k xs1 xs2 b0 b1 b2 true b4 b5 b6 b7 b8 b9 x11 x12 x13 y x15 x16 x17 x18 w' where
  bP := by
    cases hb : b8 with
    | true => have := (h.o8 hb).2; cases this
    | false => have := h.bP; rw [hb] at this; exact heap_over (h.r1 rfl) hg this (by decide)
  bS := heap_over (h.r1 rfl) hg h.bS (by decide)
  bX := heap_over (h.r1 rfl) hg h.bX (by decide)
  r1 := fun e => by cases e
  r1' := fun _ => hown
  r2 := fun e => rows_over (h.r1 rfl) hg (h.r2 e) (by decide)
  r2' := fun e => rows_over (h.r1 rfl) hg (h.r2' e) (by decide)
  h0 := h.h0
  h1 := h.h1
  h2 := fun _ f => by cases f
  h4 := h.h4
  h5 := h.h5
  h6 := fun e f => by obtain ⟨g, e1, e2⟩ := h.h6 e f; exact ⟨g, e1, heap_over (h.r1 rfl) hg e2 (by decide)⟩
  o8 := fun e => ⟨(h.o8 e).1, rfl⟩
  o9 := h.o9
  bel := below_over (h.r1 rfl) hg h.bel hn
  kep := kept_over (h.r1 rfl) hg h.kep
/-- behind the append to the steps -/
theorem RI.app2 {w' : World} {y : Value} (h : RI W n0 BP BS Bx p r wd wh v1 v2 k xs1 xs2 b0 b1 b2 true b4 b5 b6 false b8 b9 x11 x12 x13 x14 x15 x16 x17 x18 w) (hn : n0 ≤ w.heap.size)
    (hown : w'.ownsRow n0 32 3 y (k + 1) (xs2 ++ [.int .i32 r, .int .i64 wd, .bool wh])) (hg : w.grownBy w' v2.ownBlock) (hX : some Bx ≠ v2.ownBlock) :
    RI W n0 BP BS Bx p r wd wh v1 v2 k xs1 xs2 b0 b1 b2 true b4 b5 b6 true b8 b9 x11 x12 x13 x14 x15 x16 x17 y w' where
  bP := heap_over (h.r2 rfl) hg h.bP (by decide)
  bS := by
    cases hb : b9 with
    | true => have := (h.o9 hb).2; cases this
    | false => have := h.bS; rw [hb] at this; exact heap_over (h.r2 rfl) hg this (by decide)
  bX := (hg.block Bx (Array.getElem?_eq_some_iff.1 h.bX).1 hX).trans h.bX
  r1 := fun e => rows_over (h.r2 rfl) hg (h.r1 e) (by decide)
  r1' := fun e => rows_over (h.r2 rfl) hg (h.r1' e) (by decide)
  r2 := fun e => by cases e
  r2' := fun _ => hown
  h0 := h.h0
  h1 := h.h1
  h2 := fun _ f => by cases f
  h4 := h.h4
  h5 := h.h5
  h6 := fun _ f => by cases f
  o8 := h.o8
  o9 := fun e => ⟨(h.o9 e).1, rfl⟩
  bel := below_over (h.r2 rfl) hg h.bel hn
  kep := kept_over (h.r2 rfl) hg h.kep
end

/-- the region's operations -/
noncomputable def goneOps : Array Oper := match Tryd.f14.body with
  | some (.seq _ (.seq _ (.seq _ (.seq (.seq _ (.block _ (.rangeFunc _ _ _ (.block _ (.region _ ops _))))) _)))) => ops
  | _ => #[]
def goneMay (b0 b1 b2 b3 b4 b5 b6 b7 b8 b9 : Bool) : Nat → Bool
  | 0 => !b0
  | 1 => !b1
  | 2 => !b2 && b1
  | 3 => !b3 && b0 && b2
  | 4 => !b4
  | 5 => !b5
  | 6 => !b6 && b5
  | 7 => !b7 && b4 && b6 && b3
  | 8 => !b8 && b0 && b3 && b7
  | 9 => !b9 && b4 && b7 && b8
  | _ => false
theorem gone_ready : ∀ b0 b1 b2 b3 b4 b5 b6 b7 b8 b9 : Bool, (Region.ready .any goneOps #[b0, b1, b2, b3, b4, b5, b6, b7, b8, b9]).all (goneMay b0 b1 b2 b3 b4 b5 b6 b7 b8 b9) = true := by decide +kernel
theorem gone_done : ∀ b0 b1 b2 b3 b4 b5 b6 b7 b8 b9 : Bool, Region.ready .any goneOps #[b0, b1, b2, b3, b4, b5, b6, b7, b8, b9] = [] → (b3 = true ∧ b7 = true ∧ b8 = true ∧ b9 = true) := by decide +kernel

theorem gone_op0 : ∃ ty pos aft, goneOps[0]? = some ⟨some 11, Op.load 35 (.tmp 4), ty, pos, aft, none⟩ := ⟨_, _, _, rfl⟩
theorem gone_op1 : ∃ ty pos aft, goneOps[1]? = some ⟨some 12, Op.move (.tmp 6), ty, pos, aft, none⟩ := ⟨_, _, _, rfl⟩
theorem gone_op2 : ∃ ty pos aft, goneOps[2]? = some ⟨some 13, Op.buildSlice 35 1 #[(0, .tmp 12)], ty, pos, aft, none⟩ := ⟨_, _, _, rfl⟩
theorem gone_op3 : ∃ ty pos aft, goneOps[3]? = some ⟨some 14, Op.call { callee := .builtin .append, args := #[.tmp 11, .tmp 13], argTypes := #[35, 35] }, ty, pos, aft, none⟩ := ⟨_, _, _, rfl⟩
theorem gone_op4 : ∃ ty pos aft, goneOps[4]? = some ⟨some 15, Op.load 36 (.tmp 5), ty, pos, aft, none⟩ := ⟨_, _, _, rfl⟩
theorem gone_op5 : ∃ ty pos aft, goneOps[5]? = some ⟨some 16, Op.load 32 (.tmp 7), ty, pos, aft, none⟩ := ⟨_, _, _, rfl⟩
theorem gone_op6 : ∃ ty pos aft, goneOps[6]? = some ⟨some 17, Op.buildSlice 36 1 #[(0, .tmp 16)], ty, pos, aft, none⟩ := ⟨_, _, _, rfl⟩
theorem gone_op7 : ∃ ty pos aft, goneOps[7]? = some ⟨some 18, Op.call { callee := .builtin .append, args := #[.tmp 15, .tmp 17], argTypes := #[36, 36] }, ty, pos, aft, none⟩ := ⟨_, _, _, rfl⟩
theorem gone_op8 : ∃ ty pos aft, goneOps[8]? = some ⟨none, Op.store 35 (.tmp 4) (.tmp 14), ty, pos, aft, none⟩ := ⟨_, _, _, rfl⟩
theorem gone_op9 : ∃ ty pos aft, goneOps[9]? = some ⟨none, Op.store 36 (.tmp 5) (.tmp 18), ty, pos, aft, none⟩ := ⟨_, _, _, rfl⟩
theorem cell_one (w : World) (ad : Addr) (x : Value) (h : w.cell? ad = some x) : ∀ j u, [x][j]? = some u → w.cell? (ad.add j) = some u := by
  intro j u hu
  cases j with
  | succ j => simp at hu
  | zero =>
    simp at hu; subst hu
    have : ad.add 0 = ad := by obtain ⟨b, o, l⟩ := ad; simp [Addr.add]
    rw [this]; exact h
theorem cell_three (w : World) (g : Nat) (x y z : Value) (t : Nat) (h : w.heap[g]? = some (.cells #[x, y, z] t (0, 0))) : ∀ j u, [x, y, z][j]? = some u → w.cell? ((⟨g, 0, none⟩ : Addr).add j) = some u := by
  intro j u hu
  have e : (⟨g, 0, none⟩ : Addr).add j = ⟨g, j, none⟩ := by simp [Addr.add]; exact fun h => h.symm
  rw [e]
  simp only [World.cell?, h]
  simpa using hu

end Go.Proofs.YtcnbfpmognijcaaDoor
