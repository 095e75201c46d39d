import Derived.Test.YtkcnfdffemddlaaPlaneU
namespace Go.Proofs.Ytkcnfdffemddlaa.Pure
open Go.RowKit Go.Proofs.Ytkcnfdffemddlaa.G
set_option linter.unusedVariables false
theorem i32_range {a : Int} (h : (Lit.int .i32 a).wf = true) : in32 a := by
  simp only [Lit.wf, Bool.and_eq_true, decide_eq_true_eq] at h
  have e1 : IntKind.i32.max = 2147483647 := rfl
  have e2 : IntKind.i32.min = -2147483648 := rfl
  rw [e1, e2] at h
  unfold in32; omega
theorem i16_range {a : Int} (h : (Lit.int .i16 a).wf = true) : in16 a := by
  simp only [Lit.wf, Bool.and_eq_true, decide_eq_true_eq] at h
  have e1 : IntKind.i16.max = 32767 := rfl
  have e2 : IntKind.i16.min = -32768 := rfl
  rw [e1, e2] at h
  unfold in16; omega
theorem PlaneRound (x0 x1 : S48) (x2 : S50) (w0 : wf48 x0) (w1 : wf48 x1) (w2 : wf50 x2) : merkhetlaw25_PlaneRound.f x0.f0 x0.f1 x1.f0 x1.f1 x2.f0 x2.f1 = some true := by
  unfold merkhetlaw25_PlaneRound.f
  rw [if_pos ⟨i32_range w0.1, i32_range w0.2, i32_range w1.1, i32_range w1.2, i16_range w2.1, i16_range w2.2⟩]
end Go.Proofs.Ytkcnfdffemddlaa.Pure
