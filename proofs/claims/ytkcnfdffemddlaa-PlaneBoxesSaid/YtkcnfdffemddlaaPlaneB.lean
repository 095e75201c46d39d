/- plane: what the small functions hand back: point, clean, Coords, Point. -/
import Derived.Test.YtkcnfdffemddlaaPlaneA
import Derived.Test.YtkcnfdffemddlaaFltC
import Derived.OwnWalk
namespace Go.Proofs.Ytkcnfdffemddlaa.Pl
open Go.RowKit Go.Proofs.YtkcnfdffemddlaaW.PrintWords Go.Proofs.YtkcnfdffemddlaaW.Lib Go.Proofs.YtkcnfdffemddlaaW.Flt
set_option linter.unusedVariables false

@[simp, go_sem] theorem run_real (P : Program) (ts : Array TypeId) (t : TypeId) (a b : Nat) (w : World) : (Builtin.real_ ts t #[.complex .f64 a b]).run P w = .ok (.float .f64 a) w := rfl
@[simp, go_sem] theorem run_imag (P : Program) (ts : Array TypeId) (t : TypeId) (a b : Nat) (w : World) : (Builtin.imag_ ts t #[.complex .f64 a b]).run P w = .ok (.float .f64 b) w := rfl
@[simp, go_sem] theorem run_complex (P : Program) (ts : Array TypeId) (t : TypeId) (a b : Nat) (w : World) : (Builtin.complex_ ts t #[.float .f64 a, .float .f64 b]).run P w = .ok (.complex .f64 a b) w := rfl
theorem point_calls (a b : Nat) (ha : a < 2 ^ 64) (hb : b < 2 ^ 64) (w : World) : Calls Try.prog 37 #[.complex .f64 a b] w fun e w' => e = .returned (.bool (ptB a && ptB b)) ∧ w' = w := by
  obtain ⟨p, hp⟩ : ∃ p, ptB a = p := ⟨_, rfl⟩
  obtain ⟨q, hq⟩ : ∃ p, ptB b = p := ⟨_, rfl⟩
  have q1 := whole_calls a ha
  have q2 := whole_calls b hb
  rw [hp] at q1
  rw [hq] at q2
  rw [hp, hq]
  have Q1 := Aside0.mk q1
  have Q2 := Aside0.mk q2
  clear ha hb hp hq q1 q2
  go_enter Try.func37, Try.ntmps37
  cases p
  · go_wp2_with (go_at_call 51; refine (Q1.out _).mono ?_; rintro e w' ⟨rfl, rfl⟩)
    go_ret
    exact ⟨rfl, rfl⟩
  · go_wp2_with (go_at_call 51; (first | with_reducible refine (Q1.out _).mono ?_ | with_reducible refine (Q2.out _).mono ?_); rintro e w' ⟨rfl, rfl⟩)
    all_goals (go_ret; refine ⟨?_, rfl⟩)
    all_goals (first | rfl | simp_all; done | trace_state)
theorem clean_calls (a b : Nat) (w : World) : Calls Try.prog 48 #[.complex .f64 a b] w fun e w' => e = .returned (.complex .f64 (ar .add a 0 w) (ar .add b 0 (aw .add a 0 w))) ∧ w' = aw .add b 0 (aw .add a 0 w) := by
  go_enter Try.func48, Try.ntmps48
  go_wp2_with fail
  go_ret
  exact ⟨rfl, rfl⟩

def pointV (x y : Int) : Nat × Nat × Bool := if okI x && okI y then (enc x, enc y, true) else (0, 0, false)
def coordsV (a b : Nat) : Int × Int × Bool := if ptB a && ptB b then (truncI a, truncI b, true) else (0, 0, false)
theorem f2i {t : TypeId} (a : Nat) (ha : a < 2 ^ 64) (h : ptB a = true) : floatToIntVal .f64 a .i64 = some (truncI a) := by
  obtain ⟨h1, h2, _⟩ := ptB_out ha h
  unfold ptB at h; rw [Bool.and_eq_true] at h
  have := (trunc_le ha h.1).2
  unfold floatToIntVal
  rw [show FloatKind.f64.decode a = Ieee.double.read a from rfl, this]
  show (if (-(2 ^ 63) : Int) ≤ truncI a ∧ truncI a ≤ 2 ^ 63 - 1 then some (truncI a) else none) = _
  rw [if_pos (by omega)]
theorem Coords_calls (a b : Nat) (ha : a < 2 ^ 64) (hb : b < 2 ^ 64) (w : World) : Calls Try.prog 13 #[.complex .f64 a b] w fun e w' => e = .returned (.tuple #[.int .i64 (coordsV a b).1, .int .i64 (coordsV a b).2.1, .bool (coordsV a b).2.2]) ∧ w' = w := by
  have q0 := point_calls a b ha hb
  cases h : ptB a && ptB b
  · have e0 : coordsV a b = (0, 0, false) := by unfold coordsV; rw [h]; rfl
    rw [e0]
    rw [h] at q0
    clear ha hb h e0
    have Q := Aside0.mk q0
    clear q0
    go_enter Try.func13, Try.ntmps13
    go_wp2_with (go_at_call 37; refine (Q.out _).mono ?_; rintro e w' ⟨rfl, rfl⟩)
    all_goals (first | (go_ret; exact ⟨rfl, rfl⟩) | (go_ret2; exact ⟨rfl, rfl⟩) | (go_ret3; exact ⟨rfl, rfl⟩) | trace_state)
  · have e0 : coordsV a b = (truncI a, truncI b, true) := by unfold coordsV; rw [h]; rfl
    have hh := (Bool.and_eq_true _ _ ▸ h : ptB a = true ∧ ptB b = true)
    have c1 := fun w => run_convert_float_int (P := Try.prog) w 65 3 .f64 .i64 a _ (by kernel_rfl) (by kernel_rfl) (f2i (t := 3) a ha hh.1)
    have c2 := fun w => run_convert_float_int (P := Try.prog) w 65 3 .f64 .i64 b _ (by kernel_rfl) (by kernel_rfl) (f2i (t := 3) b hb hh.2)
    rw [e0]
    rw [h] at q0
    clear ha hb h e0 hh
    have Q := Aside0.mk q0
    clear q0
    go_enter Try.func13, Try.ntmps13
    go_wp2_with (go_at_call 37; refine (Q.out _).mono ?_; rintro e w' ⟨rfl, rfl⟩)
    all_goals (first | (go_ret2; exact ⟨rfl, rfl⟩) | (go_ret; exact ⟨rfl, rfl⟩) | (go_ret2; exact ⟨rfl, rfl⟩) | (go_ret3; exact ⟨rfl, rfl⟩) | trace_state)
theorem Point_calls (x y : Int) (w : World) : Calls Try.prog 11 #[.int .i64 x, .int .i64 y] w fun e w' => e = .returned (.tuple #[.complex .f64 (pointV x y).1 (pointV x y).2.1, .bool (pointV x y).2.2]) ∧ w' = w := by
  cases h : okI x && okI y
  · have e0 : pointV x y = (0, 0, false) := by unfold pointV; rw [h]; rfl
    rw [e0]
    have hn : ¬ (max x y ≤ 1048576 ∧ -1048576 ≤ min x y) := by
      intro hc
      unfold okI at h
      rw [decide_eq_true (by omega), decide_eq_true (by omega), decide_eq_true (by omega), decide_eq_true (by omega)] at h
      cases h
    clear e0 h
    go_enter Try.func11, Try.ntmps11
    go_wp2_with fail
    all_goals (first | (go_ret; exact ⟨rfl, rfl⟩) | (go_ret2; exact ⟨rfl, rfl⟩) | (go_ret3; exact ⟨rfl, rfl⟩) | trace_state)
  · have e0 : pointV x y = (enc x, enc y, true) := by unfold pointV; rw [h]; rfl
    have hh := (Bool.and_eq_true _ _ ▸ h : okI x = true ∧ okI y = true)
    have hx := okI_abs hh.1
    have hy := okI_abs hh.2
    have c1 : floatOfInt .f64 x = enc x := nearest_enc x (by omega)
    have c2 : floatOfInt .f64 y = enc y := nearest_enc y (by omega)
    have m1 : max x y ≤ 1048576 := by omega
    have m2 : -1048576 ≤ min x y := by omega
    rw [e0]
    clear h e0 hh hx hy
    go_enter Try.func11, Try.ntmps11
    go_wp2_with fail
    all_goals (first | (go_ret; exact ⟨rfl, rfl⟩) | (go_ret2; exact ⟨rfl, rfl⟩) | (go_ret3; exact ⟨rfl, rfl⟩) | trace_state)
end Go.Proofs.Ytkcnfdffemddlaa.Pl
