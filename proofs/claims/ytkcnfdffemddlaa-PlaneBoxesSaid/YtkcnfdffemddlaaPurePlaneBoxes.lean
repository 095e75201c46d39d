import Derived.Test.YtkcnfdffemddlaaPlaneV
import Derived.Test.YtkcnfdffemddlaaPurePlanePoints
namespace Go.Proofs.Ytkcnfdffemddlaa.Pure
open Go.RowKit Go.Proofs.Ytkcnfdffemddlaa.H
set_option linter.unusedVariables false
theorem PlaneBoxes (l0 : List S24) (w0 : (l0.length ≤ maxLen ∧ l0.length * 16 ≤ reachBytes ∧ ∀ x ∈ l0, wf24 x)) : merkhetlaw25_PlaneBoxes.f l0 = some true := by
  have hall : l0.all u64s = true := by
    refine List.all_eq_true.2 fun x hx => ?_
    have h := w0.2.2 x hx
    have h1 := u64_range h.1
    have h2 := u64_range h.2
    exact decide_eq_true ⟨h1.1, h1.2, h2.1, h2.2⟩
  unfold merkhetlaw25_PlaneBoxes.f
  exact if_pos ⟨hall, w0.1⟩
end Go.Proofs.Ytkcnfdffemddlaa.Pure
