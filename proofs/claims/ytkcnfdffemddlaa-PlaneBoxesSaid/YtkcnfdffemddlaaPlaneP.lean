/- PlanePoints' contract, in the form that the row asks. -/
import Derived.Test.YtkcnfdffemddlaaPlaneF
import Derived.Test.YtkcnfdffemddlaaHOpens
namespace Go.Proofs.Ytkcnfdffemddlaa.H
open Go.RowKit Go.Proofs.YtkcnfdffemddlaaW.PrintWords
set_option linter.unusedVariables false
def merkhetlaw25_PlanePoints.f (x y a b : Int) : Option Bool := if (0 ≤ a ∧ a < 2 ^ 64) ∧ 0 ≤ b ∧ b < 2 ^ 64 then some true else none
theorem merkhetlaw25_PlanePoints.calls {a0 a1 a2_0 a2_1 : Int} {r : Bool} {w : World} (h : merkhetlaw25_PlanePoints.f a0 a1 a2_0 a2_1 = some r) :
    Calls Try.prog 3 #[.int .i64 a0, .int .i64 a1, .agg #[.int .u64 a2_0, .int .u64 a2_1]] w fun e w' => e = .returned (.bool r) ∧ Below w.heap.size w w' := by
  unfold merkhetlaw25_PlanePoints.f at h
  split at h
  · rename_i hc
    obtain rfl : true = r := by simpa using h
    obtain ⟨a, rfl⟩ := Int.eq_ofNat_of_zero_le hc.1.1
    obtain ⟨b, rfl⟩ := Int.eq_ofNat_of_zero_le hc.2.1
    refine (Pl.PlanePoints_calls a0 a1 a b (by omega) (by omega) w).mono ?_
    rintro e w' ⟨rfl, ho⟩
    exact ⟨rfl, ho _ (Nat.le_refl _)⟩
  · cases h
end Go.Proofs.Ytkcnfdffemddlaa.H
