import Derived.Test.YtkcnfdffemddlaaPlaneT
import Derived.Test.YtkcnfdffemddlaaPurePlanePoints
namespace Go.Proofs.Ytkcnfdffemddlaa.Pure
open Go.RowKit Go.Proofs.Ytkcnfdffemddlaa.H
set_option linter.unusedVariables false
theorem PlaneTurns (x0 x1 : S24) (a2 : Int) (w0 : wf24 x0) (w1 : wf24 x1) (w2 : (Lit.int .i64 a2).wf = true) : merkhetlaw25_PlaneTurns.f x0.f0 x0.f1 x1.f0 x1.f1 a2 = some true := by
  unfold merkhetlaw25_PlaneTurns.f
  rw [if_pos ⟨u64_range w0.1, u64_range w0.2, u64_range w1.1, u64_range w1.2⟩]
end Go.Proofs.Ytkcnfdffemddlaa.Pure
