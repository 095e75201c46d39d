/- plane: Move, Turn. -/
import Derived.Test.YtkcnfdffemddlaaPlaneB
import Derived.Handy
namespace Go.Proofs.Ytkcnfdffemddlaa.Pl
open Go.RowKit Go.Proofs.YtkcnfdffemddlaaW.PrintWords Go.Proofs.YtkcnfdffemddlaaW.Lib Go.Proofs.YtkcnfdffemddlaaW.Flt
set_option linter.unusedVariables false

def moveV (a b c d : Nat) : Nat × Nat × Bool := if ptB a && ptB b && (ptB c && ptB d) then pointV (truncI a + truncI c) (truncI b + truncI d) else (0, 0, false)
theorem cleanV_calls (a b : Nat) (x y : Int) (hx : V a x) (hy : V b y) (bx : x.natAbs < 2 ^ 52) (by' : y.natAbs < 2 ^ 52) (w : World) :
    Calls Try.prog 48 #[.complex .f64 a b] w fun e w' => e = .returned (.complex .f64 (enc x) (enc y)) ∧ w' = w := by
  have h1 : floatBits .add .f64 a 0 = some (enc x) := v_clean hx bx
  have h2 : floatBits .add .f64 b 0 = some (enc y) := v_clean hy by'
  refine (clean_calls a b w).mono ?_
  rintro e w' ⟨rfl, rfl⟩
  rw [aw_some h1, aw_some h2, ar_some h1, ar_some h2]
  exact ⟨rfl, rfl⟩
theorem Move_calls (a b c d : Nat) (ha : a < 2 ^ 64) (hb : b < 2 ^ 64) (hc : c < 2 ^ 64) (hd : d < 2 ^ 64) (w : World) :
    Calls Try.prog 24 #[.complex .f64 a b, .complex .f64 c d] w fun e w' => e = .returned (.tuple #[.complex .f64 (moveV a b c d).1 (moveV a b c d).2.1, .bool (moveV a b c d).2.2]) ∧ ∀ B, Below B w w' := by
  have q1 := point_calls a b ha hb
  have q2 := point_calls c d hc hd
  cases h1 : ptB a && ptB b
  · have e0 : moveV a b c d = (0, 0, false) := by unfold moveV; rw [h1]; rfl
    rw [e0]
    rw [h1] at q1
    clear e0 q2 h1 ha hb hc hd
    have Q1 := Aside0.mk q1
    clear q1
    obtain ⟨W, hW⟩ : ∃ W, w = W := ⟨_, rfl⟩
    have HB : Aside0 (∀ B, Below B W w) := ⟨fun B => hW ▸ Below.refl B w⟩
    have e1 : ∀ e w', (e = Ending.returned (.tuple #[.complex .f64 0 0, .bool false]) ∧ ∀ B, Below B W w') → (e = Ending.returned (.tuple #[.complex .f64 0 0, .bool false]) ∧ ∀ B, Below B w w') := by subst hW; exact fun _ _ h => h
    refine Calls.mono ?_ e1
    clear e1 hW
    have ca := run_cadd Try.prog
    go_enter Try.func24, Try.ntmps24
    go_wp2_with (first
      | (go_at_call 48; refine (clean_calls _ _ _).mono ?_; rintro e w' ⟨rfl, rfl⟩)
      | (go_at_call 37; refine (Q1.out _).mono ?_; rintro e w' ⟨rfl, rfl⟩))
    all_goals (first | (go_ret2; refine ⟨rfl, fun B => ?_⟩; (repeat (refine aw_below ?_)); exact HB.out B) | trace_state)
  · cases h2 : ptB c && ptB d
    · have e0 : moveV a b c d = (0, 0, false) := by unfold moveV; rw [h1, h2]; rfl
      rw [e0]
      rw [h1] at q1
      rw [h2] at q2
      clear e0 h1 h2 ha hb hc hd
      have Q1 := Aside0.mk q1
      have Q2 := Aside0.mk q2
      clear q1 q2
      obtain ⟨W, hW⟩ : ∃ W, w = W := ⟨_, rfl⟩
      have HB : Aside0 (∀ B, Below B W w) := ⟨fun B => hW ▸ Below.refl B w⟩
      have e1 : ∀ e w', (e = Ending.returned (.tuple #[.complex .f64 0 0, .bool false]) ∧ ∀ B, Below B W w') → (e = Ending.returned (.tuple #[.complex .f64 0 0, .bool false]) ∧ ∀ B, Below B w w') := by subst hW; exact fun _ _ h => h
      refine Calls.mono ?_ e1
      clear e1 hW
      have ca := run_cadd Try.prog
      go_enter Try.func24, Try.ntmps24
      go_wp2_with (first
        | (go_at_call 48; refine (clean_calls _ _ _).mono ?_; rintro e w' ⟨rfl, rfl⟩)
        | (go_at_call 37; (first | with_reducible refine (Q1.out _).mono ?_ | with_reducible refine (Q2.out _).mono ?_); rintro e w' ⟨rfl, rfl⟩))
      all_goals (first | (go_ret2; refine ⟨rfl, fun B => ?_⟩; (repeat (refine aw_below ?_)); exact HB.out B) | trace_state)
    · have g1 := (Bool.and_eq_true _ _ ▸ h1 : ptB a = true ∧ ptB b = true)
      have g2 := (Bool.and_eq_true _ _ ▸ h2 : ptB c = true ∧ ptB d = true)
      obtain ⟨va, ba, _⟩ := ptB_out ha g1.1
      obtain ⟨vb, bb, _⟩ := ptB_out hb g1.2
      obtain ⟨vc, bc, _⟩ := ptB_out hc g2.1
      obtain ⟨vd, bd, _⟩ := ptB_out hd g2.2
      obtain ⟨s, hs, hs2⟩ := v_add (.inl va) (.inl vc) (by omega) (by omega) (by omega : (truncI a + truncI c).natAbs < 2 ^ 52)
      obtain ⟨t, ht, ht2⟩ := v_add (.inl vb) (.inl vd) (by omega) (by omega) (by omega : (truncI b + truncI d).natAbs < 2 ^ 52)
      have r1 : ∀ w, (binOp .add 25 (.complex .f64 a b) (.complex .f64 c d)).run Try.prog w = .ok (.complex .f64 s t) w := by
        intro w
        have hs' : floatBits .add .f64 a c = some s := hs
        have ht' : floatBits .add .f64 b d = some t := ht
        rw [run_cadd, aw_some hs', aw_some ht', ar_some hs', ar_some ht']
      have q4 := cleanV_calls s t _ _ hs2 ht2 (by omega) (by omega)
      have q3 := point_calls (enc (truncI a + truncI c)) (enc (truncI b + truncI d)) (enc_lt _ (by omega)) (enc_lt _ (by omega))
      rw [ptB_enc _ (by omega), ptB_enc _ (by omega)] at q3
      have e0 : moveV a b c d = pointV (truncI a + truncI c) (truncI b + truncI d) := by unfold moveV; rw [h1, h2]; rfl
      rw [e0]
      rw [h1] at q1
      rw [h2] at q2
      have Q1 := Aside0.mk q1
      have Q2 := Aside0.mk q2
      have Q3 := Aside0.mk q3
      have Q4 := Aside0.mk q4
      generalize truncI a + truncI c = x at *
      generalize truncI b + truncI d = y at *
      clear e0 h1 h2 ha hb hc hd q1 q2 q3 q4 g1 g2 va ba vb bb vc bc vd bd hs hs2 ht ht2
      cases h3 : okI x && okI y
      · have e3 : pointV x y = (0, 0, false) := by unfold pointV; rw [h3]; rfl
        have H3 := Aside0.mk h3
        rw [e3]
        clear e3 h3
        go_enter Try.func24, Try.ntmps24
        go_wp2_with (first
          | (go_at_call 48; refine (Q4.out _).mono ?_; rintro e w' ⟨rfl, rfl⟩)
          | (go_at_call 37; (first | with_reducible refine (Q1.out _).mono ?_ | with_reducible refine (Q2.out _).mono ?_ | (with_reducible refine (Q3.out _).mono ?_; rw [H3.out])); rintro e w' ⟨rfl, rfl⟩))
        all_goals (first | (go_ret2; exact ⟨rfl, fun B => Below.refl B _⟩) | trace_state)
      · have e3 : pointV x y = (enc x, enc y, true) := by unfold pointV; rw [h3]; rfl
        have H3 := Aside0.mk h3
        rw [e3]
        clear e3 h3
        go_enter Try.func24, Try.ntmps24
        go_wp2_with (first
          | (go_at_call 48; refine (Q4.out _).mono ?_; rintro e w' ⟨rfl, rfl⟩)
          | (go_at_call 37; (first | with_reducible refine (Q1.out _).mono ?_ | with_reducible refine (Q2.out _).mono ?_ | (with_reducible refine (Q3.out _).mono ?_; rw [H3.out])); rintro e w' ⟨rfl, rfl⟩))
        all_goals (first | (go_ret2; exact ⟨rfl, fun B => Below.refl B _⟩) | trace_state)

def rot : Nat → Int × Int → Int × Int
  | 0, p => p
  | n + 1, p => (-(rot n p).2, (rot n p).1)
theorem rot_abs (M : Nat) (n : Nat) (p : Int × Int) (h1 : p.1.natAbs ≤ M) (h2 : p.2.natAbs ≤ M) : (rot n p).1.natAbs ≤ M ∧ (rot n p).2.natAbs ≤ M := by
  induction n with
  | zero => exact ⟨h1, h2⟩
  | succ n ih => exact ⟨by show (-(rot n p).2).natAbs ≤ M; omega, ih.1⟩
def quarters (q : Int) : Int := (wrap64 (q.tmod 4 + 4)).tmod 4
theorem quarters_bounds (q : Int) : 0 ≤ quarters q ∧ quarters q ≤ 3 := by
  unfold quarters wrap64
  have h1 := Int.tmod_lt_of_pos q (show (0 : Int) < 4 by decide)
  have h2 : -4 < q.tmod 4 := by
    have := Int.lt_tmod_of_pos q (show (0 : Int) < 4 by decide)
    omega
  generalize q.tmod 4 = r at *
  rw [Int.tmod_eq_emod_of_nonneg (by omega)]
  omega
def turnV (a b : Nat) (q : Int) : Nat × Nat := if ptB a && ptB b then (enc (rot (quarters q).toNat (truncI a, truncI b)).1, enc (rot (quarters q).toNat (truncI a, truncI b)).2) else (0, 0)
theorem Turn_calls (a b : Nat) (q : Int) (ha : a < 2 ^ 64) (hb : b < 2 ^ 64) (w : World) : Calls Try.prog 26 #[.complex .f64 a b, .int .i64 q] w fun e w' =>
    e = .returned (.complex .f64 (turnV a b q).1 (turnV a b q).2) ∧ w' = w := by
  have q1 := point_calls a b ha hb
  cases h : ptB a && ptB b
  · have e0 : turnV a b q = (0, 0) := by unfold turnV; rw [h]; rfl
    rw [e0]
    rw [h] at q1
    clear ha hb h e0
    have Q1 := Aside0.mk q1
    clear q1
    go_enter Try.func26, Try.ntmps26
    go_wp2_with (go_at_call 37; refine (Q1.out _).mono ?_; rintro e w' ⟨rfl, rfl⟩)
    all_goals (first | (go_ret; exact ⟨rfl, rfl⟩) | trace_state)
  · have e0 : turnV a b q = (enc (rot (quarters q).toNat (truncI a, truncI b)).1, enc (rot (quarters q).toNat (truncI a, truncI b)).2) := by unfold turnV; rw [h]; rfl
    rw [e0]
    have g1 := (Bool.and_eq_true _ _ ▸ h : ptB a = true ∧ ptB b = true)
    obtain ⟨va, ba, _⟩ := ptB_out ha g1.1
    obtain ⟨vb, bb, _⟩ := ptB_out hb g1.2
    rw [h] at q1
    have QB := Aside0.mk (quarters_bounds q)
    generalize hn : (quarters q).toNat = n at *
    generalize truncI a = x at *
    generalize truncI b = y at *
    have RA := Aside0.mk (fun k => rot_abs 1048576 k (x, y) ba bb)
    clear ha hb h e0 g1
    subst va
    subst vb
    have Q1 := Aside0.mk q1
    clear q1 ba bb
    go_enter Try.func26, Try.ntmps26
    go_wp2_with (go_at_call 37; refine (Q1.out _).mono ?_; rintro e w' ⟨rfl, rfl⟩)
    have h5 : quarters q = (n : Int) := by have := QB.out; omega
    have h6 : (wrap64 (q.tmod 4 + 4)).tmod 4 = (n : Int) := h5
    rw [h6]
    have hn3 : n ≤ 3 := by have := QB.out; omega
    clear hn h5 h6 QB
    go_loop [0, 12] (fun c i => ∃ k : Nat, k ≤ n ∧ i = .int .i64 k ∧ c = .complex .f64 (enc (rot k (x, y)).1) (enc (rot k (x, y)).2)) (fun _ i => n - (intOf i).toNat)
    case atStart => exact ⟨0, by omega, rfl, rfl⟩
    case round =>
      obtain ⟨k, hk, rfl, rfl⟩ := hrel
      obtain ⟨r1, r2⟩ := RA.out k
      obtain ⟨e, f, ve, vf, hm⟩ := run_turn Try.prog 25 _ _ r1 r2
      have Q4 := Aside0.mk (cleanV_calls e f _ _ ve vf (by omega) (by omega))
      clear ve vf r1 r2
      go_wp2_with (go_at_call 48; refine (Q4.out _).mono ?_; rintro e w' ⟨rfl, rfl⟩)
      · exact ⟨⟨k + 1, by omega, rfl, rfl⟩, by simp only [intOf]; omega⟩
      · obtain rfl : k = n := by omega
        go_ret
        exact ⟨rfl, rfl⟩
end Go.Proofs.Ytkcnfdffemddlaa.Pl
