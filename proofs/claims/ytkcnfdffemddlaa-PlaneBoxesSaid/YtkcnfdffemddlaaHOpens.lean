-- Written by wip/tools/row.py, a program of this session. Lean checks it.
import Derived.Test.YtkcnfdffemddlaaHx0
import Derived.Test.YtkcnfdffemddlaaOpen
import Derived.KernelRfl
namespace Go.Proofs.Ytkcnfdffemddlaa.H
open Go.RowKit Go.Proofs.YtkcnfdffemddlaaW.PrintWords Go.Proofs.YtkcnfdffemddlaaW.Open
set_option linter.unusedVariables false
def wf24 (x : S24) : Prop := ((Lit.int .u64 x.f0).wf = true) ∧ ((Lit.int .u64 x.f1).wf = true)
set_option maxRecDepth 100000 in
theorem opens24 : Opens Try.prog 24 k24 wf24 := by
  refine (Opens.iso _ (fun x => (⟨x.1, x.2⟩ : S24)) (fun _ => rfl) (Opens.struct Try.underlying24 (by kernel_rfl) (OpensF.cons rfl rfl (Opens.int Try.underlying22 (by kernel_rfl)) (OpensF.one rfl (Opens.int Try.underlying22 (by kernel_rfl)))))).imp ?_
  exact fun _ h => h
end Go.Proofs.Ytkcnfdffemddlaa.H
