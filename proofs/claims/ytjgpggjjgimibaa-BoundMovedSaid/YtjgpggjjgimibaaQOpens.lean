-- Written by wip/tools/row.py, a program of this session. Lean checks it.
import Derived.Test.YtjgpggjjgimibaaQx0
import Derived.Test.YtjgpggjjgimibaaOpen
import Derived.KernelRfl
namespace Go.Proofs.Ytjgpggjjgimibaa.Q
open Go.RowKit Go.Proofs.YtjgpggjjgimibaaW.PrintWords Go.Proofs.YtjgpggjjgimibaaW.Open
set_option linter.unusedVariables false
def wf35 (x : S35) : Prop := ((Lit.int .i64 x.f0).wf = true) ∧ ((Lit.int .i64 x.f1).wf = true)
set_option maxRecDepth 100000 in
theorem opens35 : Opens Try.prog 35 k35 wf35 := by
  refine (Opens.iso _ (fun x => (⟨x.1, x.2⟩ : S35)) (fun _ => rfl) (Opens.struct Try.underlying35 (by kernel_rfl) (OpensF.cons rfl rfl (Opens.int Try.underlying3 (by kernel_rfl)) (OpensF.one rfl (Opens.int Try.underlying3 (by kernel_rfl)))))).imp ?_
  exact fun _ h => h
def wf37 (x : S37) : Prop := ((Lit.int .i64 x.f0).wf = true) ∧ ((Lit.int .i64 x.f1).wf = true) ∧ ((Lit.int .i64 x.f2).wf = true) ∧ (wf35 x.f3) ∧ (True)
set_option maxRecDepth 100000 in
theorem opens37 : Opens Try.prog 37 k37 wf37 := by
  refine (Opens.iso _ (fun x => (⟨x.1, x.2.1, x.2.2.1, x.2.2.2.1, x.2.2.2.2⟩ : S37)) (fun _ => rfl) (Opens.struct Try.underlying37 (by kernel_rfl) (OpensF.cons rfl rfl (Opens.int Try.underlying3 (by kernel_rfl)) (OpensF.cons rfl rfl (Opens.int Try.underlying3 (by kernel_rfl)) (OpensF.cons rfl rfl (Opens.int Try.underlying2 (by kernel_rfl)) (OpensF.cons rfl rfl opens35 (OpensF.one rfl (Opens.bool Try.underlying4 (by kernel_rfl))))))))).imp ?_
  exact fun _ h => h
def wf42 (x : S42) : Prop := ((Lit.int .u64 x.f0).wf = true) ∧ ((Lit.int .u64 x.f1).wf = true) ∧ ((Lit.int .u64 x.f2).wf = true) ∧ ((Lit.int .u8 x.f3).wf = true) ∧ (x.f4.size ≤ reachBytes) ∧ (x.f5.size ≤ reachBytes) ∧ ((Lit.int .i64 x.f6).wf = true) ∧ ((Lit.int .i64 x.f7).wf = true)
set_option maxRecDepth 100000 in
theorem opens42 : Opens Try.prog 42 k42 wf42 := by
  refine (Opens.iso _ (fun x => (⟨x.1, x.2.1, x.2.2.1, x.2.2.2.1, x.2.2.2.2.1, x.2.2.2.2.2.1, x.2.2.2.2.2.2.1, x.2.2.2.2.2.2.2⟩ : S42)) (fun _ => rfl) (Opens.struct Try.underlying42 (by kernel_rfl) (OpensF.cons rfl rfl (Opens.int Try.underlying40 (by kernel_rfl)) (OpensF.cons rfl rfl (Opens.int Try.underlying40 (by kernel_rfl)) (OpensF.cons rfl rfl (Opens.int Try.underlying40 (by kernel_rfl)) (OpensF.cons rfl rfl (Opens.int Try.underlying5 (by kernel_rfl)) (OpensF.cons rfl rfl (Opens.string Try.underlying9 (by kernel_rfl)) (OpensF.cons rfl rfl (Opens.string Try.underlying9 (by kernel_rfl)) (OpensF.cons rfl rfl (Opens.int Try.underlying2 (by kernel_rfl)) (OpensF.one rfl (Opens.int Try.underlying2 (by kernel_rfl)))))))))))).imp ?_
  exact fun _ h => h
end Go.Proofs.Ytjgpggjjgimibaa.Q
