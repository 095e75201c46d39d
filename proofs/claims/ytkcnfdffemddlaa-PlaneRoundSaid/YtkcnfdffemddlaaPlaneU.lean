/- PlaneRound's contract, in the form that the row asks. -/
import Derived.Test.YtkcnfdffemddlaaPlaneS
import Derived.Test.YtkcnfdffemddlaaGOpens
namespace Go.Proofs.Ytkcnfdffemddlaa.G
open Go.RowKit Go.Proofs.YtkcnfdffemddlaaW.PrintWords
set_option linter.unusedVariables false
def in32 (a : Int) : Prop := -(2 ^ 31) ≤ a ∧ a < 2 ^ 31
def in16 (a : Int) : Prop := -(2 ^ 15) ≤ a ∧ a < 2 ^ 15
instance (a : Int) : Decidable (in32 a) := inferInstanceAs (Decidable (_ ∧ _))
instance (a : Int) : Decidable (in16 a) := inferInstanceAs (Decidable (_ ∧ _))
def merkhetlaw25_PlaneRound.f (a b c d e f : Int) : Option Bool := if in32 a ∧ in32 b ∧ in32 c ∧ in32 d ∧ in16 e ∧ in16 f then some true else none
theorem merkhetlaw25_PlaneRound.calls {a0_0 a0_1 a1_0 a1_1 a2_0 a2_1 : Int} {r : Bool} {w : World} (h : merkhetlaw25_PlaneRound.f a0_0 a0_1 a1_0 a1_1 a2_0 a2_1 = some r) :
    Calls Try.prog 7 #[.agg #[.int .i32 a0_0, .int .i32 a0_1], .agg #[.int .i32 a1_0, .int .i32 a1_1], .agg #[.int .i16 a2_0, .int .i16 a2_1]] w fun e w' => e = .returned (.bool r) ∧ Below w.heap.size w w' := by
  unfold merkhetlaw25_PlaneRound.f at h
  split at h
  · rename_i hc
    obtain rfl : true = r := by simpa using h
    obtain ⟨h1, h2, h3, h4, h5, h6⟩ := hc
    refine (Pl.PlaneRound_calls _ _ _ _ _ _ h1 h2 h3 h4 h5 h6 w).mono ?_
    rintro e w' ⟨rfl, ho⟩
    exact ⟨rfl, ho _ (Nat.le_refl _)⟩
  · cases h
end Go.Proofs.Ytkcnfdffemddlaa.G
