-- Written by wip/tools/gp.py, a program of this session round the kit's printer. Lean checks it.
import Derived.Test.YtkpmaenhkjfncaaVx0
namespace Go.Proofs.Ytkpmaenhkjfncaa.V
open Go.RowKit Go.Proofs.Ytkpmaenhkjfncaa.Q Go.Proofs.YtkpmaenhkjfncaaW.PrintWords Go.Proofs.YtkpmaenhkjfncaaW.PrintLast Go.Proofs.YtkpmaenhkjfncaaW.PrintMore
attribute [local go_sem] max2_int min2_int max_two min_two max_three min_three max_four min_four   -- for this text's walks alone
set_option linter.unusedVariables false
set_option linter.unusedSimpArgs false

/-! ### merkhetlaw09_DedupeOne: function 11 (given) -/
def merkhetlaw09_DedupeOne.f (l0 : List S27) (a1 : Int) : Option Bool := if (∀ x ∈ l0, L.okT x) then some true else none
theorem merkhetlaw09_DedupeOne.calls (A0 : Option Addr) (c0 : Nat) (l0 : List (S27)) (a1 : Int) (r : Bool) (w : World) (hr0 : Kd.C k27 w A0 l0.length l0) (hc0 : l0.length ≤ c0) (h : merkhetlaw09_DedupeOne.f l0 a1 = some r) :
    Calls Try.prog 11 #[.slice A0 l0.length c0, .int .u64 a1] w fun e w' => e = .returned (.bool r) ∧ Below w.heap.size w w' := by
  unfold merkhetlaw09_DedupeOne.f at h
  split at h
  · rename_i hl
    obtain rfl := Option.some.inj h
    obtain ⟨b, hb, hb2⟩ := L.great_ev l0
    exact L.one_calls l0 a1 b hb (fun e => by have := (hb2 e).1; omega) hl A0 c0 w hr0 hc0
  · cases h

end Go.Proofs.Ytkpmaenhkjfncaa.V
