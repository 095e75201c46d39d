/- DedupeOne, the plain part: all was said in the walk. -/
import Derived.Test.YtkpmaenhkjfncaaVOpens
import Derived.Test.YtkpmaenhkjfncaaVx1
namespace Go.Proofs.Ytkpmaenhkjfncaa.Pure
set_option linter.unusedVariables false
open Go.RowKit Go.Proofs.Ytkpmaenhkjfncaa.Q Go.Proofs.Ytkpmaenhkjfncaa.V Go.Proofs.YtkpmaenhkjfncaaW.PrintWords Go.Proofs.YtkpmaenhkjfncaaW.PrintLast Go.Proofs.YtkpmaenhkjfncaaW.PrintMore Go.Proofs.YtkpmaenhkjfncaaW.Lib Go.Proofs.Ytkpmaenhkjfncaa.L
theorem DedupeOne (l0 : List (S27)) (a1 : Int) (w0 : (l0.length ≤ maxLen ∧ l0.length * 80 ≤ reachBytes ∧ ∀ x ∈ l0, wf27 x)) (w1 : (Lit.int .u64 a1).wf = true) : merkhetlaw09_DedupeOne.f l0 a1 = some true := by
  obtain ⟨_, _, hw⟩ := w0
  unfold merkhetlaw09_DedupeOne.f
  rw [if_pos (fun x hx => ⟨(hw x hx).2.1, (wf_u8 (hw x hx).2.2.2.1).1, (hw x hx).2.2.2.2.1, (hw x hx).2.2.2.2.2.1⟩)]
end Go.Proofs.Ytkpmaenhkjfncaa.Pure
