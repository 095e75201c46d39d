/- Sums, differences, products of words that stand for whole numbers; and the walk's laws for complex values. -/
import Derived.Test.YtkcnfdffemddlaaFltW
import Derived.Laws.FloatArith
import Derived.Lib.Walk
import Derived.WalkSmall
import Derived.Below
namespace Go.Proofs.YtkcnfdffemddlaaW.Flt
open Ieee Go.RowKit
set_option linter.unusedVariables false

theorem v_add {x y : Nat} {a b : Int} (hx : V x a) (hy : V y b) (ha : a.natAbs < 2 ^ 52) (hb : b.natAbs < 2 ^ 52) (hs : (a + b).natAbs < 2 ^ 52) : ∃ r, double.add x y = some r ∧ V r (a + b) := by
  obtain ⟨f, h1, h2⟩ := val_sum (val_read hx ha) (val_read hy hb)
  exact ⟨_, by unfold Format.add; rw [h1]; rfl, val_write h2 hs⟩
theorem v_sub {x y : Nat} {a b : Int} (hx : V x a) (hy : V y b) (ha : a.natAbs < 2 ^ 52) (hb : b.natAbs < 2 ^ 52) (hs : (a - b).natAbs < 2 ^ 52) : ∃ r, double.sub x y = some r ∧ V r (a - b) := by
  obtain ⟨f, h1, h2⟩ := val_sum (val_read hx ha) (val_opp (val_read hy hb))
  exact ⟨_, by unfold Format.sub; rw [h1]; rfl, val_write h2 hs⟩
theorem v_mul {x y : Nat} {a b : Int} (hx : V x a) (hy : V y b) (ha : a.natAbs < 2 ^ 52) (hb : b.natAbs < 2 ^ 52) (hs : (a * b).natAbs < 2 ^ 52) : ∃ r, double.mul x y = some r ∧ V r (a * b) := by
  obtain ⟨f, h1, h2⟩ := val_prod (val_read hx ha) (val_read hy hb)
  exact ⟨_, by unfold Format.mul; rw [h1]; rfl, val_write h2 hs⟩
theorem clean0 : double.add 0 0 = some 0 := by decide
theorem clean1 : double.add (double.word true 0) 0 = some 0 := by decide
theorem v_clean {x : Nat} {a : Int} (hx : V x a) (ha : a.natAbs < 2 ^ 52) : double.add x 0 = some (enc a) := by
  by_cases h : a = 0
  · subst h
    rcases hx with rfl | ⟨_, rfl⟩
    · exact clean0
    · exact clean1
  · obtain ⟨r, h1, h2⟩ := v_add hx (.inl rfl : V 0 0) ha (by decide) (by rw [Int.add_zero]; exact ha)
    rw [Int.add_zero] at h2
    rcases h2 with rfl | ⟨h3, _⟩
    · exact h1
    · exact absurd h3 h
theorem enc_one : enc 1 = 4607182418800017408 := by decide
theorem enc_lt (a : Int) (ha : a.natAbs < 2 ^ 52) : enc a < 2 ^ 64 := by
  rw [← nearest_enc a ha]
  exact double.write_lt (.number (decide (a < 0)) a.natAbs 0)
theorem truncI_V {x : Nat} {a : Int} (hx : V x a) (ha : a.natAbs < 2 ^ 52) : truncI x = a := by
  unfold truncI; rw [val_toInt (val_read hx ha)]; rfl
/-- From -2^20 to 2^20. -/
def okI (x : Int) : Bool := decide (-1048576 ≤ x) && decide (x ≤ 1048576)
theorem inR_V {x : Nat} {a : Int} (hx : V x a) (ha : a.natAbs < 2 ^ 52) : inR x = okI a := by
  have h := val_read hx ha
  have l : Val (double.read (enc (-1048576))) (-1048576) := val_read (.inl rfl) (by decide)
  have g : Val (double.read (enc 1048576)) 1048576 := val_read (.inl rfl) (by decide)
  unfold inR okI Format.order
  rw [val_order h l, val_order h g, isGe_compare, isLe_compare]
theorem ptB_enc (a : Int) (ha : a.natAbs < 2 ^ 52) : ptB (enc a) = okI a := by
  unfold ptB
  rw [inR_V (.inl rfl) ha, truncI_V (.inl rfl) ha]
  simp
theorem okI_abs {a : Int} (h : okI a = true) : a.natAbs ≤ 1048576 := by
  unfold okI at h; rw [Bool.and_eq_true] at h
  have h1 := of_decide_eq_true h.1
  have h2 := of_decide_eq_true h.2
  omega
/-- What a point's part is. -/
theorem ptB_out {x : Nat} (hx : x < 2 ^ 64) (h : ptB x = true) : x = enc (truncI x) ∧ (truncI x).natAbs ≤ 1048576 ∧ okI (truncI x) = true := by
  unfold ptB at h; rw [Bool.and_eq_true] at h
  have h1 := (trunc_le hx h.1).1
  refine ⟨(of_decide_eq_true h.2).symm, h1, ?_⟩
  unfold okI
  rw [decide_eq_true (by omega), decide_eq_true (by omega)]; rfl

/-! What arithmetic gives, and the world behind it. -/
def ar (op : BinOp) (x y : Nat) (w : World) : Nat := match floatBits op .f64 x y with | some r => r | none => (Question.nanBits .f64 x y).cut (w.tape w.drawn (.nanBits .f64 x y))
def aw (op : BinOp) (x y : Nat) (w : World) : World := if (floatBits op .f64 x y).isSome then w else w.drew
theorem ar_some {op : BinOp} {x y r : Nat} {w : World} (h : floatBits op .f64 x y = some r) : ar op x y w = r := by unfold ar; rw [h]
theorem aw_some {op : BinOp} {x y r : Nat} {w : World} (h : floatBits op .f64 x y = some r) : aw op x y w = w := by unfold aw; rw [h]; rfl
theorem aw_below {B : Nat} {a w : World} {op : BinOp} {x y : Nat} (h : Below B a w) : Below B a (aw op x y w) := by
  unfold aw; split
  · exact h
  · exact h.drew
theorem run_fadd (P : Program) (x y : Nat) (w : World) : (Op.floatArith .add .f64 x y).run P w = .ok (.float .f64 (ar .add x y w)) (aw .add x y w) := by
  unfold Op.floatArith ar aw floatBits
  cases h : FloatKind.f64.format.add x y <;> simp [Question.forced]
theorem run_fsub (P : Program) (x y : Nat) (w : World) : (Op.floatArith .sub .f64 x y).run P w = .ok (.float .f64 (ar .sub x y w)) (aw .sub x y w) := by
  unfold Op.floatArith ar aw floatBits
  cases h : FloatKind.f64.format.sub x y <;> simp [Question.forced]
theorem run_fmul (P : Program) (x y : Nat) (w : World) : (Op.floatArith .mul .f64 x y).run P w = .ok (.float .f64 (ar .mul x y w)) (aw .mul x y w) := by
  unfold Op.floatArith ar aw floatBits
  cases h : FloatKind.f64.format.mul x y <;> simp [Question.forced]
@[simp high, go_sem high] theorem run_add (P : Program) (t : TypeId) (x y : Nat) (w : World) : (binOp .add t (.float .f64 x) (.float .f64 y)).run P w = .ok (.float .f64 (ar .add x y w)) (aw .add x y w) := by
  unfold binOp
  simp [run_fadd]
theorem run_arith (P : Program) (op : BinOp) (x y : Nat) (w : World) (h : (Op.floatArith op .f64 x y).run P w = .ok (.float .f64 (ar op x y w)) (aw op x y w)) : (Op.Complex.arith op .f64 x y).run P w = .ok (ar op x y w) (aw op x y w) := by
  unfold Op.Complex.arith
  simp [h]
theorem run_cadd (P : Program) (t : TypeId) (a b c d : Nat) (w : World) : (binOp .add t (.complex .f64 a b) (.complex .f64 c d)).run P w =
    .ok (.complex .f64 (ar .add a c w) (ar .add b d (aw .add a c w))) (aw .add b d (aw .add a c w)) := by
  unfold binOp
  simp [Op.complexOp, run_arith P .add _ _ _ (run_fadd P _ _ _)]
theorem run_cmul (P : Program) (t : TypeId) (a b c d p q r s e f : Nat) (w : World) (h1 : floatBits .mul .f64 a c = some p) (h2 : floatBits .mul .f64 b d = some q) (h3 : floatBits .mul .f64 a d = some r) (h4 : floatBits .mul .f64 b c = some s)
    (h5 : floatBits .sub .f64 p q = some e) (h6 : floatBits .add .f64 r s = some f) : (binOp .mul t (.complex .f64 a b) (.complex .f64 c d)).run P w = .ok (.complex .f64 e f) w := by
  unfold binOp
  simp [Op.complexOp, Op.Complex.conv, Op.Complex.product, Op.Complex.mul, Op.Complex.sub, Op.Complex.add, run_arith P .add _ _ _ (run_fadd P _ _ _), run_arith P .sub _ _ _ (run_fsub P _ _ _), run_arith P .mul _ _ _ (run_fmul P _ _ _),
    ar_some h1, aw_some h1, ar_some h2, aw_some h2, ar_some h3, aw_some h3, ar_some h4, aw_some h4, ar_some h5, aw_some h5, ar_some h6, aw_some h6]
/-- Of points: the turn. -/
theorem run_turn (P : Program) (t : TypeId) (x y : Int) (hx : x.natAbs ≤ 1048576) (hy : y.natAbs ≤ 1048576) : ∃ e f, V e (-y) ∧ V f x ∧ ∀ w, (binOp .mul t (.complex .f64 (enc x) (enc y)) (.complex .f64 0 4607182418800017408)).run P w = .ok (.complex .f64 e f) w := by
  have i1 : V 4607182418800017408 1 := .inl enc_one.symm
  have i0 : V 0 0 := .inl rfl
  have ex : V (enc x) x := .inl rfl
  have ey : V (enc y) y := .inl rfl
  obtain ⟨p, h1, v1⟩ := v_mul ex i0 (by omega) (by decide) (by rw [Int.mul_zero]; decide)
  obtain ⟨q, h2, v2⟩ := v_mul ey i1 (by omega) (by decide) (by rw [Int.mul_one]; omega)
  obtain ⟨r, h3, v3⟩ := v_mul ex i1 (by omega) (by decide) (by rw [Int.mul_one]; omega)
  obtain ⟨s, h4, v4⟩ := v_mul ey i0 (by omega) (by decide) (by rw [Int.mul_zero]; decide)
  rw [Int.mul_zero] at v1 v4
  rw [Int.mul_one] at v2 v3
  obtain ⟨e, h5, v5⟩ := v_sub v1 v2 (by decide) (by omega) (by omega)
  obtain ⟨f, h6, v6⟩ := v_add v3 v4 (by omega) (by decide) (by omega)
  rw [Int.zero_sub] at v5
  rw [Int.add_zero] at v6
  exact ⟨e, f, v5, v6, fun w => run_cmul P t _ _ _ _ p q r s e f w h1 h2 h3 h4 h5 h6⟩
end Go.Proofs.YtkcnfdffemddlaaW.Flt
