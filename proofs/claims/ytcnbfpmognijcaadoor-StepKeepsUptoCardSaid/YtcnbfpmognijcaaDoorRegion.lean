/- A region that draws its order, inside a fence, by an invariant over what has been done. -/
import Derived.Test.YtcnbfpmognijcaaDoorIter
namespace Go.Proofs.YtcnbfpmognijcaaDoor
open Go.RowKit Go.Shelf Galley

variable {F : Fence} {n : Nat} {P : Program} {md : Region.Mode} {ops : Array Oper} {Q : Exit → Act → World → Prop}

theorem falses_drop : ∀ (l : List Bool) (i : Nat), l[i]? = some false → (l.set i true).count false + 1 = l.count false
  | [], _, h => by simp at h
  | b :: l, 0, h => by simp at h; subst h; simp
  | b :: l, i + 1, h => by
    have := falses_drop l i (by simpa using h)
    simp only [List.set_cons_succ, List.count_cons]
    omega
theorem ready_mem {listed : Array Bool} {i : Nat} (h : i ∈ Region.ready md ops listed) : listed.toList[i]? = some false := by
  unfold Region.ready at h
  rw [List.mem_filter] at h
  have h1 := h.2
  simp only [Bool.and_eq_true, Bool.not_eq_true'] at h1
  have h2 := h1.1
  rw [Array.getElem?_toList]
  rw [Array.getD_eq_getD_getElem?] at h2
  cases h3 : listed[i]? with
  | none => rw [h3] at h2; cases h2
  | some b => rw [h3] at h2; simp at h2; rw [h2]

theorem wpAnyIn_inv (J : Array Bool → Act → World → Prop)
    (hdone : ∀ L a w, J L a w → Region.ready md ops L = [] → Q .normal a w)
    (hstep : ∀ L a w i, J L a w → i ∈ Region.ready md ops L → wpOpIn F n P ops Q i (J (L.setIfInBounds i true)) a w) :
    ∀ (fuel : Nat) (L : Array Bool) (a : Act) (w : World), L.toList.count false ≤ fuel → J L a w → wpAnyIn F n P md ops Q fuel L a w
  | 0, L, a, w, hf, hJ => by
    have hr : Region.ready md ops L = [] := by
      cases hr : Region.ready md ops L with
      | nil => rfl
      | cons i l =>
        have := ready_mem (md := md) (ops := ops) (listed := L) (i := i) (by rw [hr]; simp)
        have h2 := falses_drop _ _ this
        omega
    exact ⟨hr, hdone L a w hJ hr⟩
  | fuel + 1, L, a, w, hf, hJ => by
    refine ⟨hdone L a w hJ, fun i hi => ?_⟩
    refine wpOpIn_mono (fun a' w' h => wpAnyIn_inv J hdone hstep fuel _ a' w' ?_ h) (hstep L a w i hJ hi)
    have h2 := falses_drop _ _ (ready_mem hi)
    rw [Array.toList_setIfInBounds]
    omega
end Go.Proofs.YtcnbfpmognijcaaDoor
