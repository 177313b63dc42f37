/- Steps of a region that draws its order, each by a law (so that no goal ever stands that is the program's run). -/
import Derived.Test.YtcnbfpmognijcaaDoorProg
import Derived.WalkKit
namespace Go.Proofs.YtcnbfpmognijcaaDoor

theorem wp_convert {P : Program} {o : Oper} {a : Act} {w w' : World} {K : Act → World → Prop} {Q : Exit → Act → World → Prop} {src dst : TypeId} {x : Operand} {v v0 : Value} (d : Tmp) (hd : o.dst = some d) (hop : o.op = Op.convert src dst x) (hx : a.eval x = v0)
    (hrun : (convert src dst v0).run P w = .ok v w') (hK : K (a.put (some d) v) w') : o.wp P a w K Q := by
  rw [← hd] at hK
  unfold Oper.wp execOp
  simp only [hop]
  simp [hx, hrun, Result.andThen]
  exact hK
theorem wp_call {P : Program} {o : Oper} {a : Act} {w : World} {K : Act → World → Prop} {Q : Exit → Act → World → Prop} {f : Nat} {args : Array Operand} {tys : Array TypeId} {vs : Array Value} {v : Value} {R : World → Prop} (d : Tmp) (hd : o.dst = some d)
    (hop : o.op = Op.call { callee := .value (.func f), args := args, argTypes := tys }) (hen : ∀ args w, (callFunc f args).run P w = .ok (.enter f args) w) (hx : args.map a.eval = vs)
    (hc : Calls P f vs w fun e w' => e = .returned v ∧ R w') (hK : ∀ w', R w' → K (a.put (some d) v) w') : o.wp P a w K Q := by
  subst hx
  unfold Oper.wp execOp
  simp only [hop]
  have e : a.eval (.func f) = .func (.func f) #[] #[] := rfl
  simp [resolve, invoke, e, Deferred.ofValue, hen, Oper.upon]
  refine hc.mono ?_
  rintro e w' ⟨rfl, hR⟩
  have := hK w' hR
  rwa [← hd] at this
theorem step_wanted {P : Program} {ops : Array Oper} {o : Oper} {a : Act} {w : World} {K : Act → World → Prop} {Q : Exit → Act → World → Prop} (h : Region.wanted o (yielded ops a.tmps) = true) (g : o.wp P a w K Q) :
    if Region.wanted o (yielded ops a.tmps) = true then o.wp P a w K Q else K (a.put o.dst undef) w := by rw [if_pos h]; exact g
end Go.Proofs.YtcnbfpmognijcaaDoor
