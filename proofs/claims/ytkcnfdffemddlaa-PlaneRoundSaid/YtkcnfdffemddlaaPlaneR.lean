/- plane: the law of rounds. -/
import Derived.Test.YtkcnfdffemddlaaPlaneF
import Derived.Deep.RegionHeld3
namespace Go.Proofs.Ytkcnfdffemddlaa.Pl
open Go.RowKit Go.Proofs.YtkcnfdffemddlaaW.PrintWords Go.Proofs.YtkcnfdffemddlaaW.Lib Go.Proofs.YtkcnfdffemddlaaW.Flt
set_option linter.unusedVariables false

theorem turnV_enc {x y : Int} (q : Int) (hx : x.natAbs ≤ 1048576) (hy : y.natAbs ≤ 1048576) : turnV (enc x) (enc y) q = (enc (rot (quarters q).toNat (x, y)).1, enc (rot (quarters q).toNat (x, y)).2) := by
  unfold turnV
  have h : ∀ z : Int, z.natAbs ≤ 1048576 → okI z = true := by
    intro z hz; unfold okI; rw [decide_eq_true (by omega), decide_eq_true (by omega)]; rfl
  rw [ptB_enc _ (by omega), ptB_enc _ (by omega), h x hx, h y hy, truncI_V (.inl rfl) (by omega : x.natAbs < 2 ^ 52), truncI_V (.inl rfl) (by omega : y.natAbs < 2 ^ 52)]
  rfl
theorem moveV_enc {x y u v : Int} (hx : x.natAbs ≤ 1048576) (hy : y.natAbs ≤ 1048576) (hu : u.natAbs ≤ 1048576) (hv : v.natAbs ≤ 1048576) (h1 : (x + u).natAbs ≤ 1048576) (h2 : (y + v).natAbs ≤ 1048576) :
    moveV (enc x) (enc y) (enc u) (enc v) = (enc (x + u), enc (y + v), true) := by
  unfold moveV
  have h : ∀ z : Int, z.natAbs ≤ 1048576 → okI z = true := by
    intro z hz; unfold okI; rw [decide_eq_true (by omega), decide_eq_true (by omega)]; rfl
  rw [ptB_enc _ (by omega), ptB_enc _ (by omega), ptB_enc _ (by omega), ptB_enc _ (by omega), h x hx, h y hy, h u hu, h v hv, truncI_V (.inl rfl) (by omega : x.natAbs < 2 ^ 52), truncI_V (.inl rfl) (by omega : y.natAbs < 2 ^ 52), truncI_V (.inl rfl) (by omega : u.natAbs < 2 ^ 52), truncI_V (.inl rfl) (by omega : v.natAbs < 2 ^ 52)]
  exact pointV_ok h1 h2
theorem enc_self (a : Int) (ha : a.natAbs < 2 ^ 52) : Ieee.double.order (enc a) (enc a) = some .eq := by
  unfold Ieee.Format.order
  rw [val_order (val_read (.inl rfl) ha) (val_read (.inl rfl) ha)]
  congr 1
  simp [compare, compareOfLessAndEq]
theorem run_ceql (P : Program) (t : TypeId) (a b : Nat) (w : World) (h1 : Ieee.double.order a a = some .eq) (h2 : Ieee.double.order b b = some .eq) : (binOp .eql t (.complex .f64 a b) (.complex .f64 a b)).run P w = .ok (.bool true) w := by
  have h1' : FloatKind.f64.format.order a a = some .eq := h1
  have h2' : FloatKind.f64.format.order b b = some .eq := h2
  unfold binOp
  simp [Op.complexOp, Op.Complex.cmp, Op.floatCmp, h1', h2', asBool]
theorem rot_add (k : Nat) (x y u v : Int) : rot k (x + u, y + v) = ((rot k (x, y)).1 + (rot k (u, v)).1, (rot k (x, y)).2 + (rot k (u, v)).2) := by
  induction k with
  | zero => rfl
  | succ k ih => show (-(rot k (x + u, y + v)).2, (rot k (x + u, y + v)).1) = _; rw [ih]; show (-((rot k (x, y)).2 + (rot k (u, v)).2), (rot k (x, y)).1 + (rot k (u, v)).1) = (-(rot k (x, y)).2 + -(rot k (u, v)).2, (rot k (x, y)).1 + (rot k (u, v)).1); rw [Int.neg_add]
theorem rot_rot (k l : Nat) (p : Int × Int) : rot k (rot l p) = rot (k + l) p := by
  induction k with
  | zero => rw [Nat.zero_add]; rfl
  | succ k ih => rw [Nat.add_right_comm]; show (-(rot k (rot l p)).2, (rot k (rot l p)).1) = _; rw [ih]; rfl
theorem rot_four (p : Int × Int) : rot 4 p = p := by
  show (-(-(p.1)), -(-p.2)) = p
  rw [Int.neg_neg, Int.neg_neg]
theorem rot_mod (k : Nat) (p : Int × Int) : rot (k + 4) p = rot k p := by rw [← rot_rot, rot_four]
theorem quarters_emod (q : Int) : quarters q = q % 4 := by
  rcases Int.lt_or_le (q.tmod 4) 0 with h | h
  · rw [← quarters_neg q h]
    have h2 : -4 < q.tmod 4 := by
      have := Int.lt_tmod_of_pos q (show (0 : Int) < 4 by decide)
      omega
    have h3 := Int.tmod_add_mul_tdiv q 4
    unfold wrap64; omega
  · rw [← quarters_pos q h]
    have h2 := Int.tmod_lt_of_pos q (show (0 : Int) < 4 by decide)
    have h3 := Int.tmod_add_mul_tdiv q 4
    omega
theorem rot_quarters (q r : Int) (p : Int × Int) : rot (quarters r).toNat (rot (quarters q).toNat p) = rot (quarters (q + r)).toNat p := by
  rw [rot_rot]
  have h1 := quarters_bounds q
  have h2 := quarters_bounds r
  have h3 := quarters_bounds (q + r)
  rw [quarters_emod] at *
  rw [quarters_emod] at *
  rw [quarters_emod] at *
  by_cases h : r % 4 + q % 4 < 4
  · congr 1; omega
  · have : (r % 4).toNat + (q % 4).toNat = ((q + r) % 4).toNat + 4 := by omega
    rw [this, rot_mod]
set_option maxRecDepth 100000 in
set_option maxHeartbeats 4000000 in
theorem PlaneRound_walk (p0 p1 b0 b1 q0 q1 x y u v : Int) (A1 A2 B1 B2 M1 M2 R1 R2 S1 S2 T1 T2 Z1 Z2 : Nat)
    (hx : p0.tmod 524288 = x) (hy : p1.tmod 524288 = y) (hu : b0.tmod 524288 = u) (hv : b1.tmod 524288 = v)
    (e0 : wrap64 x = x) (e1 : wrap64 y = y) (e2 : wrap64 u = u) (e3 : wrap64 v = v) (e4 : wrap64 q0 = q0) (e5 : wrap64 q1 = q1) (e6 : wrap64 (q0 + q1) = q0 + q1)
    (Q1 : ∀ w, Calls Try.prog 11 #[.int .i64 x, .int .i64 y] w fun e w' => e = .returned (.tuple #[.complex .f64 A1 A2, .bool true]) ∧ w' = w)
    (Q2 : ∀ w, Calls Try.prog 11 #[.int .i64 u, .int .i64 v] w fun e w' => e = .returned (.tuple #[.complex .f64 B1 B2, .bool true]) ∧ w' = w)
    (Q3 : ∀ w, Calls Try.prog 24 #[.complex .f64 A1 A2, .complex .f64 B1 B2] w fun e w' => e = .returned (.tuple #[.complex .f64 M1 M2, .bool true]) ∧ ∀ B, Below B w w')
    (Q4 : ∀ w, Calls Try.prog 26 #[.complex .f64 A1 A2, .int .i64 q0] w fun e w' => e = .returned (.complex .f64 R1 R2) ∧ w' = w)
    (Q5 : ∀ w, Calls Try.prog 26 #[.complex .f64 B1 B2, .int .i64 q0] w fun e w' => e = .returned (.complex .f64 S1 S2) ∧ w' = w)
    (Q6 : ∀ w, Calls Try.prog 24 #[.complex .f64 R1 R2, .complex .f64 S1 S2] w fun e w' => e = .returned (.tuple #[.complex .f64 T1 T2, .bool true]) ∧ ∀ B, Below B w w')
    (Q7 : ∀ w, Calls Try.prog 26 #[.complex .f64 M1 M2, .int .i64 q0] w fun e w' => e = .returned (.complex .f64 T1 T2) ∧ w' = w)
    (Q8 : ∀ w, Calls Try.prog 26 #[.complex .f64 A1 A2, .int .i64 4] w fun e w' => e = .returned (.complex .f64 A1 A2) ∧ w' = w)
    (Q9 : ∀ w, Calls Try.prog 26 #[.complex .f64 R1 R2, .int .i64 q1] w fun e w' => e = .returned (.complex .f64 Z1 Z2) ∧ w' = w)
    (Q10 : ∀ w, Calls Try.prog 26 #[.complex .f64 A1 A2, .int .i64 (q0 + q1)] w fun e w' => e = .returned (.complex .f64 Z1 Z2) ∧ w' = w)
    (E1 : ∀ t w, (binOp .eql t (.complex .f64 A1 A2) (.complex .f64 A1 A2)).run Try.prog w = .ok (.bool true) w)
    (E2 : ∀ t w, (binOp .eql t (.complex .f64 T1 T2) (.complex .f64 T1 T2)).run Try.prog w = .ok (.bool true) w)
    (E3 : ∀ t w, (binOp .eql t (.complex .f64 Z1 Z2) (.complex .f64 Z1 Z2)).run Try.prog w = .ok (.bool true) w) (w : World) :
    Calls Try.prog 7 #[.agg #[.int .i32 p0, .int .i32 p1], .agg #[.int .i32 b0, .int .i32 b1], .agg #[.int .i16 q0, .int .i16 q1]] w fun e w' => e = .returned (.bool true) ∧ Own w w' := by
  replace Q1 := Aside0.mk Q1
  replace Q2 := Aside0.mk Q2
  replace Q3 := Aside0.mk Q3
  replace Q4 := Aside0.mk Q4
  replace Q5 := Aside0.mk Q5
  replace Q6 := Aside0.mk Q6
  replace Q7 := Aside0.mk Q7
  replace Q8 := Aside0.mk Q8
  replace Q9 := Aside0.mk Q9
  replace Q10 := Aside0.mk Q10
  have QF := Aside0.mk fixed_calls
  have k4 : IntKind.i64.wrap q0 = q0 := by rw [IntKind.wrap_i64]; unfold wrap64 at e4; exact e4
  have k5 : IntKind.i64.wrap q1 = q1 := by rw [IntKind.wrap_i64]; unfold wrap64 at e5; exact e5
  have k6 : IntKind.i64.wrap (q0 + q1) = q0 + q1 := by rw [IntKind.wrap_i64]; unfold wrap64 at e6; exact e6
  go_enter Try.func7, Try.ntmps7
  go_wp2_with fail
  generalize hW : ((w.alloc (.cells #[.int .i32 p0, .int .i32 p1] 48)).alloc (.cells #[.int .i32 b0, .int .i32 b1] 48)).alloc (.cells #[.int .i16 q0, .int .i16 q1] 50) = W
  have ho : Own w W := hW ▸ ((Own.refl w).alloc _ |>.alloc _ |>.alloc _)
  have c0 : W.cell? ⟨w.heap.size, 0, none⟩ = some (.int .i32 p0) := by rw [← hW]; clear hW; go_simp
  have c1 : W.cell? ⟨w.heap.size, 1, none⟩ = some (.int .i32 p1) := by rw [← hW]; clear hW; go_simp
  have c2 : W.cell? ⟨w.heap.size + 1, 0, none⟩ = some (.int .i32 b0) := by rw [← hW]; clear hW; go_simp
  have c3 : W.cell? ⟨w.heap.size + 1, 1, none⟩ = some (.int .i32 b1) := by rw [← hW]; clear hW; go_simp
  have c4 : W.cell? ⟨w.heap.size + 1 + 1, 0, none⟩ = some (.int .i16 q0) := by rw [← hW]; clear hW; go_simp
  have c5 : W.cell? ⟨w.heap.size + 1 + 1, 1, none⟩ = some (.int .i16 q1) := by rw [← hW]; clear hW; go_simp
  have HB := Aside0.mk ho
  obtain ⟨g, hg⟩ : ∃ g, w.heap.size = g := ⟨_, rfl⟩
  have HG := Aside0.mk hg
  rw [hg] at c0 c1 c2 c3 c4 c5 ⊢
  clear hW ho hg
  go_wp2_with (first
    | (go_at_call 11; (first | with_reducible refine (Q1.out _).mono ?_ | with_reducible refine (Q2.out _).mono ?_); rintro e w1 ⟨rfl, rfl⟩)
    | (go_at_call 26; (first | with_reducible refine (Q4.out _).mono ?_ | with_reducible refine (Q5.out _).mono ?_ | with_reducible refine (Q7.out _).mono ?_ | with_reducible refine (Q8.out _).mono ?_ | with_reducible refine (Q9.out _).mono ?_ | with_reducible refine (Q10.out _).mono ?_); rintro e w1 ⟨rfl, rfl⟩)
    | (go_at_call 24; (first | with_reducible refine (Q3.out _).mono ?_ | with_reducible refine (Q6.out _).mono ?_); rintro e w1 ⟨rfl, hb'⟩
       have hb : Own _ w1 := fun B _ => hb' B
       clear hb'; replace c0 := Own.cell hb c0; replace c1 := Own.cell hb c1; replace c2 := Own.cell hb c2; replace c3 := Own.cell hb c3; replace c4 := Own.cell hb c4; replace c5 := Own.cell hb c5; replace HB := Aside0.mk (HB.out.trans hb); clear hb))
  clear c0 c1 c2 c3
  go_region_held3 (fun w' => Own w w' ∧ w'.cell? ⟨g + 1 + 1, 0, none⟩ = some (.int .i16 q0) ∧ w'.cell? ⟨g + 1 + 1, 1, none⟩ = some (.int .i16 q1))
    (first | exact ⟨HB.out.drew, c4, c5⟩ | (obtain ⟨h0, h1, h2⟩ := ‹_ ∧ _ ∧ _›; exact ⟨h0.trans hb, Own.cell hb h1, Own.cell hb h2⟩) | assumption)
    (first
      | (go_at_call 16; refine (QF.out _).mono ?_; rintro e w2 ⟨rfl, rfl⟩)
      | (go_at_call 26; (try simp only [k4, k5, k6, e4, e5, e6]); (first | with_reducible refine (Q4.out _).mono ?_ | with_reducible refine (Q5.out _).mono ?_ | with_reducible refine (Q7.out _).mono ?_ | with_reducible refine (Q8.out _).mono ?_ | with_reducible refine (Q9.out _).mono ?_ | with_reducible refine (Q10.out _).mono ?_); rintro e w2 ⟨rfl, rfl⟩)
      | (go_at_call 24; (first | with_reducible refine (Q3.out _).mono ?_ | with_reducible refine (Q6.out _).mono ?_); rintro e w2 ⟨rfl, hb'⟩; have hb : Own _ w2 := fun B _ => hb' B; clear hb'))
  all_goals
    have hS := ‹_ ∧ _ ∧ _›
    clear HB c4 c5
    obtain ⟨h0, c4, c5⟩ := hS
    have HB := Aside0.mk h0
    clear h0
    go_wp2_with fail
  go_region_held3 (fun w' => Own w w' ∧ w'.cell? ⟨g + 1 + 1, 0, none⟩ = some (.int .i16 q0) ∧ w'.cell? ⟨g + 1 + 1, 1, none⟩ = some (.int .i16 q1))
    (first | exact ⟨HB.out.drew, c4, c5⟩ | (obtain ⟨h0, h1, h2⟩ := ‹_ ∧ _ ∧ _›; exact ⟨h0.trans hb, Own.cell hb h1, Own.cell hb h2⟩) | assumption)
    (first
      | (go_at_call 16; refine (QF.out _).mono ?_; rintro e w2 ⟨rfl, rfl⟩)
      | (go_at_call 26; (try simp only [k4, k5, k6, e4, e5, e6]); (first | with_reducible refine (Q4.out _).mono ?_ | with_reducible refine (Q5.out _).mono ?_ | with_reducible refine (Q7.out _).mono ?_ | with_reducible refine (Q8.out _).mono ?_ | with_reducible refine (Q9.out _).mono ?_ | with_reducible refine (Q10.out _).mono ?_); rintro e w2 ⟨rfl, rfl⟩)
      | (go_at_call 24; (first | with_reducible refine (Q3.out _).mono ?_ | with_reducible refine (Q6.out _).mono ?_); rintro e w2 ⟨rfl, hb'⟩; have hb : Own _ w2 := fun B _ => hb' B; clear hb'))
  all_goals
    have HH := Aside0.mk (And.left ‹_ ∧ _ ∧ _›)
    go_wp2_with fail
    go_ret
    exact ⟨rfl, HH.out⟩
end Go.Proofs.Ytkcnfdffemddlaa.Pl
