-- Written by wip/tools/row.py, a program of this session. Lean checks it.
import Derived.Test.YtkcnfdffemddlaaArr2
import Derived.Test.YtkcnfdffemddlaaGx0
import Derived.Test.YtkcnfdffemddlaaOpen
import Derived.KernelRfl
namespace Go.Proofs.Ytkcnfdffemddlaa.G
open Go.RowKit Go.Proofs.YtkcnfdffemddlaaW.PrintWords Go.Proofs.YtkcnfdffemddlaaW.Open
set_option linter.unusedVariables false
def wf48 (x : S48) : Prop := ((Lit.int .i32 x.f0).wf = true) ∧ ((Lit.int .i32 x.f1).wf = true)
theorem opens48 : Opens Try.prog 48 k48 wf48 := by
  refine (Opens.iso _ (fun x => (⟨x.1, x.2⟩ : S48)) (fun _ => rfl) (Opens.array2 Try.underlying48 (by kernel_rfl) (Opens.int Try.underlying21 (by kernel_rfl)))).imp ?_
  exact fun _ h => h
def wf50 (x : S50) : Prop := ((Lit.int .i16 x.f0).wf = true) ∧ ((Lit.int .i16 x.f1).wf = true)
theorem opens50 : Opens Try.prog 50 k50 wf50 := by
  refine (Opens.iso _ (fun x => (⟨x.1, x.2⟩ : S50)) (fun _ => rfl) (Opens.array2 Try.underlying50 (by kernel_rfl) (Opens.int Try.underlying49 (by kernel_rfl)))).imp ?_
  exact fun _ h => h
end Go.Proofs.Ytkcnfdffemddlaa.G
