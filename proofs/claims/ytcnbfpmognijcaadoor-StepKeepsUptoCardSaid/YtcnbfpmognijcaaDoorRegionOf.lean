/- A region of a function by its number: a short name for its operations. -/
import Derived.Test.YtcnbfpmognijcaaDoorProg
import Derived.WalkKit
namespace Go.Proofs.YtcnbfpmognijcaaDoor

noncomputable def regionOf (i : Nat) : Code → Option (Array Oper)
  | .region j ops _ => if j = i then some ops else none
  | .seq a b => (regionOf i a).or (regionOf i b)
  | .cond _ a b => (regionOf i a).or (regionOf i b)
  | .block _ a => regionOf i a
  | .loop a => regionOf i a
  | .rangeFunc _ _ a b => (regionOf i a).or (regionOf i b)
  | _ => none
noncomputable def opsOf (f : Func) (i : Nat) : Array Oper := ((f.body.bind (regionOf i)).getD #[])
noncomputable def langOps : Array Oper := opsOf Tryd.f5 14
theorem langOps_size : langOps.size = 22 := by kernel_rfl
end Go.Proofs.YtcnbfpmognijcaaDoor
