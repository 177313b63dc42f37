/- What the rows of this seat share. -/
import Derived.Test.YtihfkoomimohbaaRows
import Derived.Test.YtihfkoomimohbaaArgs
import Derived.WalkKit
import Derived.ProofKit
import Derived.OpenShut
import Derived.ShutString
import Derived.ChangeOld
import Derived.Below
import Derived.Deep.DeepHandedRow
import Derived.Lib.LaidTab
import Derived.Deep.Strs
import Derived.Deep.Slices
namespace Go.Proofs.Ytihfkoomimohbaa
open Go.ChangeShapes Go.WideShapes Go.ChangeAt Go.RowKit

theorem own : ownKnob Try.prog.godebug = none := by kernel_rfl
theorem laidOut : laidOutB Try.prog = true := by kernel_rfl
/-- A WORLD FOR THE WITNESS: the settled one. -/
noncomputable def plainWorld (os : Os) : World := World.holding Try.prog os ⟨#[], #[], []⟩
theorem cellsOp : Try.prog.cellsOf 68 = 3 := by kernel_rfl
theorem cellsI64 : Try.prog.cellsOf 3 = 1 := by kernel_rfl
theorem cellsStr : Try.prog.cellsOf 9 = 1 := by kernel_rfl

theorem spot_of {w : World} {a : Addr} {i : Nat} {v : Value} (h : w.cell? (a.add i) = some v) (hi : i = 0 ∨ a.spot = none) : a.spot = none := by
  rcases hi with rfl | h'
  · have := World.cell?_spot h
    simpa [Addr.add] using this
  · exact h'
theorem add_plain' {a : Addr} (hs : a.spot = none) (i : Nat) : a.add i = ⟨a.block, a.off + i, none⟩ := by
  obtain ⟨b, o, sp⟩ := a
  simp only at hs
  subst hs
  unfold Addr.add
  split <;> simp_all

set_option maxRecDepth 100000 in
theorem arg_ops {H : Type} {enc : TypeId × Value → H} {W : World} {base : Nat} {v : Value} {d : DataW H} {p : List MemPlace} (hval : Value.okWide Try.prog W .any base 27 v)
    (h : DataW.Trod enc Try.prog W 0 (fun _ => true) true 27 v d p) : ∃ A c n, v = .slice A n c ∧ OpsAt W A n := by
  obtain ⟨A, len, cap, rfl⟩ := okWide_slice Try.underlying27 hval
  obtain ⟨fuel, hf⟩ := h
  rcases Go.Deep.open_slice Try.underlying27 hf with ⟨hcs, hx⟩ | ⟨a, l, c, m, n, D, Pl, hcs, hb, hl, hm, hmm, _, hx⟩
  · simp [Value.cells] at hcs
    obtain ⟨rfl, rfl, rfl⟩ := hcs
    exact ⟨none, 0, 0, rfl, Nat.zero_le _, fun i hi => absurd hi (Nat.not_lt_zero i)⟩
  · simp [Value.cells] at hcs
    obtain ⟨rfl, rfl, rfl⟩ := hcs
    have hmm' : m = cap := by simpa using hmm
    subst hmm'
    refine ⟨some a, m, len, rfl, by unfold maxLen at hm; omega, fun i hi => ?_⟩
    have sp : a.spot = none := by
      obtain ⟨cs', h1, _⟩ := hx 0 (by omega)
      rw [cellsOp] at h1
      obtain ⟨_, hlen, hcell⟩ := World.cells?_some h1
      have h0 := hcell 0 (by omega)
      rw [List.getElem?_eq_getElem (by omega)] at h0
      have := World.cell?_spot h0
      simpa [Addr.add] using this
    obtain ⟨cs', h1, h2⟩ := hx i (by omega)
    rw [cellsOp] at h1
    obtain ⟨_, hlen, hcell⟩ := World.cells?_some h1
    obtain ⟨y0, y1, y2, q, _, _, g0, g1, g2⟩ := Go.Deep.trod_struct3 (P := Try.prog) Try.underlying68 h2
    obtain ⟨c0, c1, c2, rfl⟩ : ∃ c0 c1 c2, cs' = [c0, c1, c2] := by
      match cs', hlen with
      | [x, y, z], _ => exact ⟨x, y, z, rfl⟩
    simp only [cellsI64, cellsStr] at g0 g1 g2
    simp only [List.drop_zero, List.drop_succ_cons, List.take_succ_cons, List.take_zero] at g0 g1 g2
    obtain ⟨n0, e0, _, _⟩ := DataW.trod_int Try.underlying3 g0
    obtain ⟨n1, e1, _, _⟩ := DataW.trod_int Try.underlying3 g1
    obtain ⟨s2, e2, _⟩ := DataW.trod_string Try.underlying9 g2
    simp only [List.cons.injEq, and_true] at e0 e1 e2
    subst e0 e1 e2
    have k0 := hcell 0 (by omega)
    have k1 := hcell 1 (by omega)
    have k2 := hcell 2 (by omega)
    rw [add_plain' sp, add_plain' (by rfl)] at k0 k1 k2
    exact ⟨a.block, a.off, n0, n1, s2, by obtain ⟨b, o, s⟩ := a; simp only at sp; subst sp; rfl, by simpa using k0, by simpa using k1, by simpa using k2⟩

set_option maxRecDepth 100000 in
theorem arg_nums {H : Type} {enc : TypeId × Value → H} {W : World} {base : Nat} {v : Value} {d : DataW H} {p : List MemPlace} (hval : Value.okWide Try.prog W .any base 41 v)
    (h : DataW.Trod enc Try.prog W 0 (fun _ => true) true 41 v d p) : ∃ A c n, v = .slice A n c ∧ NumsAt W A n := by
  obtain ⟨A, len, cap, rfl⟩ := okWide_slice Try.underlying41 hval
  obtain ⟨fuel, hf⟩ := h
  rcases Go.Deep.open_slice Try.underlying41 hf with ⟨hcs, hx⟩ | ⟨a, l, c, m, n, D, Pl, hcs, hb, hl, hm, hmm, _, hx⟩
  · simp [Value.cells] at hcs
    obtain ⟨rfl, rfl, rfl⟩ := hcs
    exact ⟨none, 0, 0, rfl, Nat.zero_le _, fun i hi => absurd hi (Nat.not_lt_zero i)⟩
  · simp [Value.cells] at hcs
    obtain ⟨rfl, rfl, rfl⟩ := hcs
    have hmm' : m = cap := by simpa using hmm
    subst hmm'
    refine ⟨some a, m, len, rfl, by unfold maxLen at hm; omega, fun i hi => ?_⟩
    have sp : a.spot = none := by
      obtain ⟨cs', h1, _⟩ := hx 0 (by omega)
      rw [cellsI64] at h1
      obtain ⟨_, hlen, hcell⟩ := World.cells?_some h1
      have h0 := hcell 0 (by omega)
      rw [List.getElem?_eq_getElem (by omega)] at h0
      have := World.cell?_spot h0
      simpa [Addr.add] using this
    obtain ⟨cs', h1, h2⟩ := hx i (by omega)
    rw [cellsI64] at h1
    obtain ⟨_, hlen, hcell⟩ := World.cells?_some h1
    obtain ⟨n0, rfl, _, _⟩ := DataW.trod_int Try.underlying3 h2
    have k0 := hcell 0 (by omega)
    rw [add_plain' sp, add_plain' (by rfl)] at k0
    exact ⟨a.block, a.off, n0, by obtain ⟨b, o, s⟩ := a; simp only at sp; subst sp; rfl, by simpa using k0⟩
end Go.Proofs.Ytihfkoomimohbaa
