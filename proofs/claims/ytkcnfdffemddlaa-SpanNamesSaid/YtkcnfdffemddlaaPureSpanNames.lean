/- SpanNames, the plain part: a text is a name by the program just if it is one by the document. -/
import Derived.Test.YtkcnfdffemddlaaSpanL
import Derived.Test.YtkcnfdffemddlaaQx4
namespace Go.Proofs.Ytkcnfdffemddlaa.Pure
open Go.RowKit Go.Proofs.Ytkcnfdffemddlaa.Q Go.Proofs.YtkcnfdffemddlaaW.PrintWords Go.Proofs.YtkcnfdffemddlaaW.PrintLast Go.Proofs.YtkcnfdffemddlaaW.PrintMore Go.Proofs.YtkcnfdffemddlaaW.Lib Go.Proofs.Ytkcnfdffemddlaa.L

theorem SpanNames (a0 : ByteArray) (w0 : a0.size ≤ reachBytes) : ∃ k, merkhetlaw01_SpanNames.f k a0 = some true := by
  have w1 : a0.size ≤ 140737488351232 := w0
  refine Ev.rounds (g := fun k => merkhetlaw01_SpanNames.f k a0) ?_
  unfold merkhetlaw01_SpanNames.f
  refine Ev.ite (fun h => Ev.bind fixed01 (Ev.now _)) (fun h => Ev.bind fixed01 ?_)
  refine Ev.pos rfl (Ev.bind (name_ev a0 w1) (Ev.bind (rname_ev a0 w1) ?_))
  exact Ev.cast (Ev.now _) (by simp)
end Go.Proofs.Ytkcnfdffemddlaa.Pure
