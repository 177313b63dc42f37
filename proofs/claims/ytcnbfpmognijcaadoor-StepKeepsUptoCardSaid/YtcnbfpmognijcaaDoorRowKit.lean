/- What the rows of this seat share: the listed variable's cells, an argument that is a slice of bytes, the witness' world. -/
import Derived.Test.YtcnbfpmognijcaaDoorCards
import Derived.Test.YtcnbfpmognijcaaDoorTie
import Derived.WalkKit
import Derived.ProofKit
import Derived.OpenShut
import Derived.ShutString
import Derived.ChangeOld
import Derived.Below
import Derived.Deep.DeepHandedRow
import Derived.Lib.LaidTab
import Derived.Deep.Strs
import Derived.Test.YtcnbfpmognijcaaDoorByt
namespace Go.Proofs.YtcnbfpmognijcaaDoor
open Go.ChangeShapes Go.WideShapes Go.ChangeAt Go.RowKit Go.Proofs.YtcnbfpmognijcaaDoorW.PrintWords Galley

theorem own : ownKnob Tryd.prog.godebug = none := by kernel_rfl
theorem laidOut : laidOutB Tryd.prog = true := by kernel_rfl
theorem gBad : Tryd.prog.globalNamed "galley/step.bad" = some 0 := by kernel_rfl
theorem gBadType : (Tryd.prog.globals[0]?).map (·.type) = some 32 := by kernel_rfl
theorem cellsStep : Tryd.prog.cellsOf 32 = 3 := by kernel_rfl
theorem cellsI32 : Tryd.prog.cellsOf 21 = 1 := by kernel_rfl
theorem cellsI64 : Tryd.prog.cellsOf 3 = 1 := by kernel_rfl
theorem cellsBool : Tryd.prog.cellsOf 4 = 1 := by kernel_rfl
theorem cellsU8 : Tryd.prog.cellsOf 5 = 1 := by kernel_rfl

theorem bytesU8 : Tryd.prog.bytesOf 5 = 1 := by kernel_rfl

theorem bad_of_laid {W : World} (h : laidMetH Tryd.prog [("galley/step.bad", Rows.laid_galley_step_bad)] W) : BadLies W := by
  obtain ⟨ps, ⟨g', t', cs, fuel, p, q, hg', ht', hvar, hd, _, _⟩, _⟩ := (show laidMet Tryd.prog [("galley/step.bad", Rows.laid_galley_step_bad)] W from h)
  obtain rfl := Option.some.inj (gBad.symm.trans hg')
  obtain rfl := Option.some.inj (gBadType.symm.trans ht')
  obtain ⟨y0, y1, y2, n, hx, hl, h0, h1, h2⟩ := Go.Deep.trod_struct3 (P := Tryd.prog) Tryd.underlying32 hd
  rw [cellsStep] at hl
  obtain ⟨c0, c1, c2, hcs⟩ : ∃ c0 c1 c2, cs = #[c0, c1, c2] := by
    obtain ⟨l⟩ := cs
    simp only at hl
    match l, hl with
    | [a, b, c], _ => exact ⟨a, b, c, rfl⟩
  subst hcs
  simp only [cellsI32, cellsI64, cellsBool] at h0 h1 h2
  simp only [List.drop_zero, List.drop_succ_cons, List.take_succ_cons, List.take_zero] at h0 h1 h2
  obtain ⟨n0, e0, rfl, _⟩ := DataW.trod_int Tryd.underlying21 h0
  obtain ⟨n1, e1, rfl, _⟩ := DataW.trod_int Tryd.underlying3 h1
  obtain ⟨b2, e2, rfl⟩ := DataW.trod_bool Tryd.underlying4 h2
  simp only [List.cons.injEq, and_true] at e0 e1 e2
  simp only [Prod.mk.injEq] at hx
  obtain ⟨hx, _⟩ := hx
  simp only [Rows.laid_galley_step_bad, DataW.agg.injEq, List.cons.injEq, DataW.lit.injEq, Lit.int.injEq, Lit.bool.injEq, true_and, and_true] at hx
  obtain ⟨rfl, rfl, rfl⟩ := hx
  have k := World.var?_cell gBad hvar
  exact ⟨by rw [k 0, e0]; rfl, by rw [k 1, e1]; rfl, by rw [k 2, e2]; rfl⟩

/-- an argument that is a slice of bytes -/
theorem arg_bytes {H : Type} {enc : TypeId × Value → H} {W : World} {base : Nat} {v : Value} {d : DataW H} {p : List MemPlace} (hval : Value.okWide Tryd.prog W .any base 22 v)
    (h : DataW.Trod enc Tryd.prog W 0 (fun _ => true) true 22 v d p) :
    ∃ A c s, v = .slice A (ByteArray.size s) c ∧ (s.size ≤ 140737488355328 → Byt W A c s) ∧ s.size ≤ Rows.uptoBulk d ∧ ((d.weights Tryd.prog 22).all (· ≤ reachBytes) = true → s.size ≤ 140737488351232) := by
  obtain ⟨A, len, cap, rfl⟩ := okWide_slice Tryd.underlying22 hval
  obtain ⟨fuel, hf⟩ := h
  rcases open_ints Tryd.underlying22 Tryd.underlying5 (by kernel_rfl) hf with ⟨hcs, hx⟩ | ⟨x, l, c, zs, hcs, _, hl, hm, hz, hx, hcell, hwz⟩
  · simp [Value.cells] at hcs
    obtain ⟨rfl, rfl, rfl⟩ := hcs
    refine ⟨none, 0, ByteArray.empty, rfl, fun _ => ⟨⟨rfl, by simp [bytesOf], fun h => absurd h (by simp [bytesOf])⟩, Nat.le_refl _, by simp⟩, by simp, fun _ => by simp⟩
  · simp [Value.cells] at hcs
    obtain ⟨rfl, rfl, rfl⟩ := hcs
    have hz' : zs.length = cap := by simpa using hz
    have hlen : (zs.take len).length = len := by rw [List.length_take]; omega
    have hsz : (strOfNums (zs.take len)).size = len := by rw [strOfNums_size, hlen]
    have hb : bytesOf (strOfNums (zs.take len)) = zs.take len := by
      unfold bytesOf
      rw [strOfNums_data, List.map_map]
      conv => rhs; rw [← List.map_id (zs.take len)]
      apply List.map_congr_left
      intro n hn
      have := hwz n (List.mem_of_mem_take hn)
      simp [Lit.wf, IntKind.min, IntKind.max, IntKind.signed, IntKind.bits] at this
      simp
      omega
    simp only [Prod.mk.injEq] at hx
    obtain ⟨rfl, _⟩ := hx
    refine ⟨some x, cap, strOfNums (zs.take len), by rw [hsz], fun hs => ⟨?_, by rw [hsz]; exact hl, hs⟩, ?_, fun hw => ?_⟩
    · rw [hb]
      refine Kd.C_of_reads (enc := Value.int .u8) (d := (0 : Int)) ⟨rfl, by rw [hlen]; unfold maxLen at hm; omega, fun _ => ⟨x, rfl, fun j hj => ?_⟩⟩
      rw [hlen] at hj
      rw [hcell j (by omega)]
      simp [List.getD, hj]
    · have h1 : ∀ l : List (DataW H), l.length ≤ Rows.uptoBulkAll l := by
        intro l
        induction l with
        | nil => simp [Rows.uptoBulkAll]
        | cons x r ih =>
          have : 1 ≤ Rows.uptoBulk x := by
            cases x with
            | lit l => cases l <;> simp [Rows.uptoBulk]
            | nil => simp [Rows.uptoBulk]
            | ptr d => simp [Rows.uptoBulk]
            | slice elems spare => simp [Rows.uptoBulk]
            | agg parts => simp [Rows.uptoBulk]
            | iface t d => simp [Rows.uptoBulk]
            | map entries => simp [Rows.uptoBulk]
            | held h => simp [Rows.uptoBulk]
          simp only [Rows.uptoBulkAll, List.length_cons]; omega
      have h2 := h1 (lits .u8 (zs.take len))
      have h3 : (lits (H := H) .u8 (zs.take len)).length = len := by simp [lits]; omega
      rw [hsz]
      simp only [Rows.uptoBulk]
      omega
    · rw [hsz]
      simp only [DataW.weights, Tryd.underlying22, List.all_cons, Bool.and_eq_true, decide_eq_true_eq, bytesU8, Nat.mul_one] at hw
      have h3 : (lits (H := H) .u8 (zs.take len)).length = len := by simp [lits]; omega
      have h4 := hw.1
      rw [h3] at h4
      unfold reachBytes at h4
      omega

/-- A WORLD FOR THE WITNESS: the settled one, the variable holding what its initialiser lays. -/
noncomputable def laidWorld (os : Os) : World :=
  { World.holding Tryd.prog os ⟨#[], #[], []⟩ with heap := (World.holding Tryd.prog os ⟨#[], #[], []⟩).heap.modify 0 fun
      | .cells _ t frozen => .cells #[.int .i32 65533, .int .i64 1, .bool false] t frozen
      | o => o }
end Go.Proofs.YtcnbfpmognijcaaDoor
