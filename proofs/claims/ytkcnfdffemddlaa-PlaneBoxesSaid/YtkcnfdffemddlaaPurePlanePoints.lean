import Derived.Test.YtkcnfdffemddlaaPlaneP
namespace Go.Proofs.Ytkcnfdffemddlaa.Pure
open Go.RowKit Go.Proofs.Ytkcnfdffemddlaa.H
set_option linter.unusedVariables false
theorem u64_range {a : Int} (h : (Lit.int .u64 a).wf = true) : 0 ≤ a ∧ a < 2 ^ 64 := by
  simp only [Lit.wf, Bool.and_eq_true, decide_eq_true_eq] at h
  exact ⟨h.1, by have := h.2; show a < 18446744073709551616; have e : IntKind.u64.max = 18446744073709551615 := rfl; omega⟩
theorem PlanePoints (a0 a1 : Int) (x2 : S24) (w0 : (Lit.int .i64 a0).wf = true) (w1 : (Lit.int .i64 a1).wf = true) (w2 : wf24 x2) : merkhetlaw25_PlanePoints.f a0 a1 x2.f0 x2.f1 = some true := by
  unfold merkhetlaw25_PlanePoints.f
  rw [if_pos ⟨u64_range w2.1, u64_range w2.2⟩]
end Go.Proofs.Ytkcnfdffemddlaa.Pure
