/- plane: what the small functions hand back: whole, point, Coords, Point. -/
import Derived.Test.YtkcnfdffemddlaaFltW
import Derived.Test.YtkcnfdffemddlaaLib
import Derived.Test.YtkcnfdffemddlaaProg
import Derived.WalkKit
import Derived.Laws.FloatArith
import Derived.Lib.Walk
namespace Go.Proofs.Ytkcnfdffemddlaa.Pl
open Go.RowKit Go.Proofs.YtkcnfdffemddlaaW.PrintWords Go.Proofs.YtkcnfdffemddlaaW.Lib Go.Proofs.YtkcnfdffemddlaaW.Flt
set_option linter.unusedVariables false

theorem run_bits (b : Nat) (w : World) : (callFunc 36 #[.float .f64 b]).run Try.prog w = .ok (.value (.int .u64 b)) w := by
  rw [run_callFunc_extern Try.func36 (by kernel_rfl) (by kernel_rfl) (by kernel_rfl) (e := Extern.MathFloatBits.float64bits) (by kernel_rfl)]
  rfl
theorem run_frombits (n : Int) (w : World) : (callFunc 38 #[.int .u64 n]).run Try.prog w = .ok (.value (.float .f64 n.toNat)) w := by
  rw [run_callFunc_extern Try.func38 (by kernel_rfl) (by kernel_rfl) (by kernel_rfl) (e := Extern.MathFloatBits.float64frombits) (by kernel_rfl)]
  rfl
theorem ti (n : String) (b : Nat) (s : Bool) (m : Nat) (p : Int) (h : Ieee.double.read b = .number s m p) :
    Extern.MathFloor.toIntegral n .zero #[.float .f64 b] = pure (.float .f64 (FloatKind.f64.encode ((FloatKind.f64.decode b).integral .zero))) := by
  have h' : FloatKind.f64.decode b = .number s m p := h
  delta Extern.MathFloor.toIntegral Extern.MathFloor.toIntegral.match_2
  revert h'
  clear h
  generalize FloatKind.decode = D
  generalize FloatKind.encode = E
  intro h'
  show (Extern.MathFloor.toIntegral.match_1 (motive := fun _ => Sem Value) (D .f64 b) _ _) = _
  rw [h']
theorem run_archTrunc (b : Nat) (s : Bool) (m : Nat) (p : Int) (h : Ieee.double.read b = .number s m p) (w : World) :
    (callFunc 71 #[.float .f64 b]).run Try.prog w = .ok (.value (.float .f64 (Ieee.double.write ((Ieee.double.read b).integral .zero)))) w := by
  rw [run_callFunc_extern Try.func71 (by kernel_rfl) (by kernel_rfl) (by kernel_rfl) (e := Extern.MathFloor.toIntegral "math.archTrunc" .zero) (by kernel_rfl), ti _ b s m p h]
  rfl

theorem trunc_calls (b : Nat) (s : Bool) (m : Nat) (p : Int) (h : Ieee.double.read b = .number s m p) (w : World) :
    Calls Try.prog 58 #[.float .f64 b] w fun e w' => e = .returned (.float .f64 (Ieee.double.write ((Ieee.double.read b).integral .zero))) ∧ w' = w := by
  have q := run_archTrunc b s m p h
  generalize Ieee.double.write ((Ieee.double.read b).integral .zero) = t at *
  clear h
  go_enter Try.func58, Try.ntmps58
  go_wp2
  go_ret
  exact ⟨rfl, rfl⟩
theorem signbit_calls (b : Nat) (hb : b < 2 ^ 64) (w : World) : Calls Try.prog 59 #[.float .f64 b] w fun e w' => e = .returned (.bool (!decide (b < 2 ^ 63))) ∧ w' = w := by
  have q := run_bits
  go_enter Try.func59, Try.ntmps59
  go_wp2
  go_ret
  refine ⟨?_, rfl⟩
  show Ending.returned (.bool (decide (wrap64 (b : Int) < 0))) = _
  have : decide (wrap64 (b : Int) < 0) = !decide (b < 2 ^ 63) := by
    unfold wrap64
    by_cases h : b < 2 ^ 63
    · rw [decide_eq_true h]; exact decide_eq_false (by omega)
    · rw [decide_eq_false h]; exact decide_eq_true (by omega)
  rw [this]

theorem enc_lo : enc (-1048576) = 13920626448202203136 := by decide
theorem enc_hi : enc 1048576 = 4697254411347427328 := by decide
theorem or_isGe (o : Option Ordering) : (o == some .gt || o == some .eq) = isGe o := rfl
theorem or_isLe (o : Option Ordering) : (o == some .lt || o == some .eq) = isLe o := rfl
theorem whole_calls (b : Nat) (hb : b < 2 ^ 64) (w : World) : Calls Try.prog 51 #[.float .f64 b] w fun e w' => e = .returned (.bool (ptB b)) ∧ w' = w := by
  obtain ⟨o1, h1⟩ : ∃ o, FloatKind.f64.format.order b 13920626448202203136 = o := ⟨_, rfl⟩
  obtain ⟨o2, h2⟩ : ∃ o, FloatKind.f64.format.order b 4697254411347427328 = o := ⟨_, rfl⟩
  have hI : inR b = (isGe o1 && isLe o2) := by unfold inR; rw [enc_lo, enc_hi, ← h1, ← h2]; rfl
  by_cases hR : inR b = true
  · obtain ⟨s, m, p, hr, _⟩ := inR_number hb hR
    have qt := trunc_calls b s m p hr
    have qs := signbit_calls b hb
    have hw := whole_iff hb hR
    obtain ⟨o3, h3⟩ : ∃ o, FloatKind.f64.format.order b (Ieee.double.write ((Ieee.double.read b).integral .zero)) = o := ⟨_, rfl⟩
    obtain ⟨o4, h4⟩ : ∃ o, FloatKind.f64.format.order b 0 = o := ⟨_, rfl⟩
    have hP : ptB b = (o3 == some .eq && (!(o4 == some .eq) || decide (b < 2 ^ 63))) := by
      unfold ptB; rw [hR, Bool.true_and, ← hw, ← h3, ← h4]; rfl
    generalize Ieee.double.write ((Ieee.double.read b).integral .zero) = t at *
    generalize ptB b = P at *
    rw [hR] at hI
    obtain ⟨g1, g2⟩ : (o1 == some .gt || o1 == some .eq) = true ∧ (o2 == some .lt || o2 == some .eq) = true := (Bool.and_eq_true _ _ ▸ hI.symm : isGe o1 = true ∧ isLe o2 = true)
    generalize decide (b < 2 ^ 63) = sb at *
    clear hw hr hI hR
    subst hP
    clear hb
    go_enter Try.func51, Try.ntmps51
    go_wp2_with (first
      | (go_at_call 58; refine (qt _).mono ?_; rintro e w' ⟨rfl, rfl⟩)
      | (go_at_call 59; refine (qs _).mono ?_; rintro e w' ⟨rfl, rfl⟩))
    all_goals clear qt qs h1 h2 h3 h4
    all_goals (go_ret; refine ⟨congrArg (fun x => Ending.returned (.bool x)) ?_, rfl⟩)
    all_goals (first | simp_all; done | trace_state)
  · have hP : ptB b = false := by unfold ptB; rw [Bool.eq_false_iff.2 hR]; rfl
    have hg : ¬ ((o1 = some .gt ∨ o1 = some .eq) ∧ (o2 = some .lt ∨ o2 = some .eq)) := by
      rintro ⟨a1, a2⟩
      apply hR
      rw [hI]
      rcases a1 with rfl | rfl <;> rcases a2 with rfl | rfl <;> rfl
    have hv : (isGe o1 && isLe o2) = false := by rw [← hI]; exact Bool.eq_false_iff.2 hR
    generalize ptB b = P at *
    subst hP
    clear hI hR hb
    go_enter Try.func51, Try.ntmps51
    go_wp2_with (go_at_call 58; exact absurd ⟨by assumption, by assumption⟩ hg)
    all_goals (go_ret; refine ⟨congrArg (fun x => Ending.returned (.bool x)) ?_, rfl⟩)
    all_goals (first | rfl | exact hv | trace_state)
end Go.Proofs.Ytkcnfdffemddlaa.Pl
