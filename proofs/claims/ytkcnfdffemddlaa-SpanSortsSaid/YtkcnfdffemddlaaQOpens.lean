-- Written by wip/tools/row.py, a program of this session. Lean checks it.
import Derived.Test.YtkcnfdffemddlaaQx0
import Derived.Test.YtkcnfdffemddlaaOpen
import Derived.KernelRfl
namespace Go.Proofs.Ytkcnfdffemddlaa.Q
open Go.RowKit Go.Proofs.YtkcnfdffemddlaaW.PrintWords Go.Proofs.YtkcnfdffemddlaaW.Open
set_option linter.unusedVariables false
def wf39 (x : S39) : Prop := ((Lit.int .u64 x.f0).wf = true) ∧ ((Lit.int .u64 x.f1).wf = true) ∧ ((Lit.int .u64 x.f2).wf = true) ∧ ((Lit.int .u8 x.f3).wf = true) ∧ (x.f4.size ≤ reachBytes) ∧ (x.f5.size ≤ reachBytes) ∧ ((Lit.int .i64 x.f6).wf = true) ∧ ((Lit.int .i64 x.f7).wf = true)
set_option maxRecDepth 100000 in
theorem opens39 : Opens Try.prog 39 k39 wf39 := by
  refine (Opens.iso _ (fun x => (⟨x.1, x.2.1, x.2.2.1, x.2.2.2.1, x.2.2.2.2.1, x.2.2.2.2.2.1, x.2.2.2.2.2.2.1, x.2.2.2.2.2.2.2⟩ : S39)) (fun _ => rfl) (Opens.struct Try.underlying39 (by kernel_rfl) (OpensF.cons rfl rfl (Opens.int Try.underlying22 (by kernel_rfl)) (OpensF.cons rfl rfl (Opens.int Try.underlying22 (by kernel_rfl)) (OpensF.cons rfl rfl (Opens.int Try.underlying22 (by kernel_rfl)) (OpensF.cons rfl rfl (Opens.int Try.underlying5 (by kernel_rfl)) (OpensF.cons rfl rfl (Opens.string Try.underlying9 (by kernel_rfl)) (OpensF.cons rfl rfl (Opens.string Try.underlying9 (by kernel_rfl)) (OpensF.cons rfl rfl (Opens.int Try.underlying2 (by kernel_rfl)) (OpensF.one rfl (Opens.int Try.underlying2 (by kernel_rfl)))))))))))).imp ?_
  exact fun _ h => h
end Go.Proofs.Ytkcnfdffemddlaa.Q
