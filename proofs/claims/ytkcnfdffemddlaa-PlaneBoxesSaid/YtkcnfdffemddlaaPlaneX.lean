/- plane: Box. -/
import Derived.Test.YtkcnfdffemddlaaPlaneE
namespace Go.Proofs.Ytkcnfdffemddlaa.Pl
open Go.RowKit Go.Proofs.YtkcnfdffemddlaaW.PrintWords Go.Proofs.YtkcnfdffemddlaaW.Lib Go.Proofs.YtkcnfdffemddlaaW.Flt
set_option linter.unusedVariables false

theorem order_enc (x y : Int) (hx : x.natAbs < 2 ^ 52) (hy : y.natAbs < 2 ^ 52) : FloatKind.f64.format.order (enc x) (enc y) = some (compare x y) := by
  show Ieee.double.order (enc x) (enc y) = _
  unfold Ieee.Format.order
  rw [val_order (val_read (.inl rfl) hx) (val_read (.inl rfl) hy)]
theorem cmp_lt {x y : Int} (h : x < y) : compare x y = .lt := by simp only [compare, compareOfLessAndEq]; rw [if_pos h]
theorem cmp_gt {x y : Int} (h : y < x) : compare x y = .gt := by simp only [compare, compareOfLessAndEq]; rw [if_neg (by omega), if_neg (by omega)]
theorem cmp_eq (x : Int) : compare x x = .eq := by simp only [compare, compareOfLessAndEq]; rw [if_neg (by omega), if_pos trivial]
theorem run_fmin (P : Program) (ts : Array TypeId) (t : TypeId) (x y : Int) (hx : x.natAbs < 2 ^ 52) (hy : y.natAbs < 2 ^ 52) (w : World) : (Builtin.min_ ts t #[.float .f64 (enc x), .float .f64 (enc y)]).run P w = .ok (.float .f64 (enc (min x y))) w := by
  have h := order_enc x y hx hy
  unfold Builtin.min_
  simp only [List.foldlM_cons, List.foldlM_nil, Builtin.min2, h]
  rcases Int.lt_trichotomy x y with g | rfl | g
  · rw [cmp_lt g, Int.min_eq_left (by omega)]; rfl
  · rw [cmp_eq, Int.min_self]; simp
  · rw [cmp_gt g, Int.min_eq_right (by omega)]; rfl
theorem run_fmax (P : Program) (ts : Array TypeId) (t : TypeId) (x y : Int) (hx : x.natAbs < 2 ^ 52) (hy : y.natAbs < 2 ^ 52) (w : World) : (Builtin.max_ ts t #[.float .f64 (enc x), .float .f64 (enc y)]).run P w = .ok (.float .f64 (enc (max x y))) w := by
  have h := order_enc x y hx hy
  unfold Builtin.max_
  simp only [List.foldlM_cons, List.foldlM_nil, Builtin.max2, h]
  rcases Int.lt_trichotomy x y with g | rfl | g
  · rw [cmp_lt g, Int.max_eq_right (by omega)]; rfl
  · rw [cmp_eq, Int.max_self]; simp
  · rw [cmp_gt g, Int.max_eq_left (by omega)]; rfl

/-- What the first k points are within. -/
structure Bx where
  a : Int
  b : Int
  c : Int
  d : Int
def bxI (f : Nat → Int × Int) : Nat → Bx
  | 0 => ⟨0, 0, 0, 0⟩
  | k + 1 => let p := f k; let q := if k = 0 then ⟨p.1, p.2, p.1, p.2⟩ else bxI f k; ⟨min q.a p.1, min q.b p.2, max q.c p.1, max q.d p.2⟩
def allP (g : Nat → Bool) : Nat → Bool
  | 0 => true
  | k + 1 => allP g k && g k
theorem bxI_abs (f : Nat → Int × Int) (n : Nat) (h : ∀ j, j < n → (f j).1.natAbs ≤ 1048576 ∧ (f j).2.natAbs ≤ 1048576) : (bxI f n).a.natAbs ≤ 1048576 ∧ (bxI f n).b.natAbs ≤ 1048576 ∧ (bxI f n).c.natAbs ≤ 1048576 ∧ (bxI f n).d.natAbs ≤ 1048576 := by
  induction n with
  | zero => show (0 : Int).natAbs ≤ 1048576 ∧ (0 : Int).natAbs ≤ 1048576 ∧ (0 : Int).natAbs ≤ 1048576 ∧ (0 : Int).natAbs ≤ 1048576; decide
  | succ n ih =>
    have h1 := h n (by omega)
    obtain ⟨i1, i2, i3, i4⟩ := ih (fun j hj => h j (by omega))
    unfold bxI
    dsimp only
    split
    · dsimp only; omega
    · omega
def cooI (f : Nat → Nat × Nat) (j : Nat) : Int × Int := (truncI (f j).1, truncI (f j).2)
def isP (f : Nat → Nat × Nat) (j : Nat) : Bool := ptB (f j).1 && ptB (f j).2
/-- What Box hands back. -/
def boxV (f : Nat → Nat × Nat) (n : Nat) : (Nat × Nat) × (Nat × Nat) × Bool :=
  if allP (isP f) n && decide (0 < n) then ((enc (bxI (cooI f) n).a, enc (bxI (cooI f) n).b), (enc (bxI (cooI f) n).c, enc (bxI (cooI f) n).d), true) else ((0, 0), (0, 0), false)
theorem allP_out {g : Nat → Bool} {n : Nat} (h : allP g n = true) : ∀ j, j < n → g j = true := by
  induction n with
  | zero => intro j hj; omega
  | succ n ih =>
    unfold allP at h; rw [Bool.and_eq_true] at h
    intro j hj
    by_cases e : j = n
    · subst e; exact h.2
    · exact ih h.1 j (by omega)
theorem allP_not {g : Nat → Bool} {n k : Nat} (hk : k < n) (h : g k = false) : allP g n = false := by
  cases hb : allP g n
  · rfl
  · rw [allP_out hb k hk] at h; cases h
theorem box_bounds (f : Nat → Nat × Nat) (n : Nat) (hf : ∀ j, j < n → (f j).1 < 2 ^ 64 ∧ (f j).2 < 2 ^ 64) (k : Nat) (hk : k ≤ n) (hp : allP (isP f) k = true) :
    (bxI (cooI f) k).a.natAbs ≤ 1048576 ∧ (bxI (cooI f) k).b.natAbs ≤ 1048576 ∧ (bxI (cooI f) k).c.natAbs ≤ 1048576 ∧ (bxI (cooI f) k).d.natAbs ≤ 1048576 := by
  refine bxI_abs _ _ fun j hj => ?_
  obtain ⟨h1, h2⟩ := hf j (by omega)
  have hg := allP_out hp j hj
  unfold isP at hg
  rw [Bool.and_eq_true] at hg
  exact ⟨(ptB_out h1 hg.1).2.1, (ptB_out h2 hg.2).2.1⟩
set_option maxRecDepth 100000 in
set_option maxHeartbeats 2000000 in
theorem Box_calls (ad : Addr) (n c : Nat) (f : Nat → Nat × Nat) (w : World) (hn : n ≤ 1000) (hnc : n ≤ c) (hf : ∀ j, j < n → (f j).1 < 2 ^ 64 ∧ (f j).2 < 2 ^ 64) (hcell : ∀ j, j < n → w.cell? (ad.add j) = some (.complex .f64 (f j).1 (f j).2)) :
    Calls Try.prog 28 #[.slice (some ad) n c] w fun e w' => e = .returned (.tuple #[.complex .f64 (boxV f n).1.1 (boxV f n).1.2, .complex .f64 (boxV f n).2.1.1 (boxV f n).2.1.2, .bool (boxV f n).2.2]) ∧ w' = w := by
  obtain ⟨V, hV⟩ : ∃ V, boxV f n = V := ⟨_, rfl⟩
  rw [hV]
  have HV := Aside0.mk hV
  have HF := Aside0.mk hf
  have HA := Aside0.mk (box_bounds f n hf)
  have HC := Aside0.mk hcell
  clear hV hf hcell
  go_enter Try.func28, Try.ntmps28
  go_wp2_with fail
  go_loop [2, 3, 9] (fun lo hi i => ∃ k : Nat, k ≤ n ∧ i = .int .i64 k ∧ allP (isP f) k = true ∧ (k = 0 → lo = .complex .f64 0 0 ∧ hi = .complex .f64 0 0) ∧ (0 < k → lo = .complex .f64 (enc (bxI (cooI f) k).a) (enc (bxI (cooI f) k).b) ∧ hi = .complex .f64 (enc (bxI (cooI f) k).c) (enc (bxI (cooI f) k).d))) (fun _ _ i => n - (intOf i).toNat)
  case atStart => exact ⟨0, by omega, rfl, rfl, fun _ => ⟨rfl, rfl⟩, fun h => absurd h (by omega)⟩
  case round =>
    obtain ⟨k, hk, rfl, hP, h0, h1⟩ := hrel
    by_cases hkn : k < n
    · have hc := HC.out k hkn
      obtain ⟨fa, fb⟩ := HF.out k hkn
      have Q := Aside0.mk (point_calls (f k).1 (f k).2 fa fb)
      have hq : isP f k = (ptB (f k).1 && ptB (f k).2) := rfl
      rw [← hq] at Q
      cases hp : isP f k
      · rw [hp] at Q
        have e : V = ((0, 0), (0, 0), false) := by rw [← HV.out]; unfold boxV; rw [allP_not hkn hp]; rfl
        subst e
        clear hp hq h0 h1 hP
        go_wp2_with (go_at_call 37; refine (Q.out _).mono ?_; rintro e w' ⟨rfl, rfl⟩)
        go_ret3
        exact ⟨rfl, rfl⟩
      · rw [hp] at Q
        have hg := (Bool.and_eq_true _ _ ▸ (hq ▸ hp : (ptB (f k).1 && ptB (f k).2) = true) : ptB (f k).1 = true ∧ ptB (f k).2 = true)
        obtain ⟨ea, ba, _⟩ := ptB_out fa hg.1
        obtain ⟨eb, bb, _⟩ := ptB_out fb hg.2
        have hX : (cooI f k).1 = truncI (f k).1 := rfl
        have hY : (cooI f k).2 = truncI (f k).2 := rfl
        generalize truncI (f k).1 = X at *
        generalize truncI (f k).2 = Y at *
        rw [ea, eb] at Q hc
        have hP1 : allP (isP f) (k + 1) = true := by unfold allP; rw [hP, hp]; rfl
        have HP1 := Aside0.mk hP1
        clear hp hq hg fa fb hP1 ea eb
        rcases Nat.eq_zero_or_pos k with rfl | hk0
        · obtain ⟨rfl, rfl⟩ := h0 rfl
          have hb : bxI (cooI f) 1 = ⟨X, Y, X, Y⟩ := by unfold bxI; dsimp only; rw [if_pos rfl, hX, hY, Int.min_self, Int.min_self, Int.max_self, Int.max_self]
          have HBX := Aside0.mk hb
          clear h0 h1 hX hY hb hP
          have M1 : ∀ ts t w, (Builtin.min_ ts t #[.float .f64 (enc X), .float .f64 (enc X)]).run Try.prog w = .ok (.float .f64 (enc X)) w := fun ts t w => by rw [run_fmin _ _ _ _ _ (by omega) (by omega), Int.min_self]
          have M2 : ∀ ts t w, (Builtin.min_ ts t #[.float .f64 (enc Y), .float .f64 (enc Y)]).run Try.prog w = .ok (.float .f64 (enc Y)) w := fun ts t w => by rw [run_fmin _ _ _ _ _ (by omega) (by omega), Int.min_self]
          have M3 : ∀ ts t w, (Builtin.max_ ts t #[.float .f64 (enc X), .float .f64 (enc X)]).run Try.prog w = .ok (.float .f64 (enc X)) w := fun ts t w => by rw [run_fmax _ _ _ _ _ (by omega) (by omega), Int.max_self]
          have M4 : ∀ ts t w, (Builtin.max_ ts t #[.float .f64 (enc Y), .float .f64 (enc Y)]).run Try.prog w = .ok (.float .f64 (enc Y)) w := fun ts t w => by rw [run_fmax _ _ _ _ _ (by omega) (by omega), Int.max_self]
          have hc0 : w.cell? ad = some (.complex .f64 (enc X) (enc Y)) := hc
          clear hc
          go_wp2_with (go_at_call 37; refine (Q.out _).mono ?_; rintro e w' ⟨rfl, rfl⟩)
          all_goals first
            | exact ⟨⟨1, by omega, rfl, HP1.out, fun h => absurd h (by omega), fun _ => by rw [HBX.out]; exact ⟨rfl, rfl⟩⟩, by simp only [intOf]; omega⟩
            | trace_state
        · obtain ⟨rfl, rfl⟩ := h1 hk0
          have hb : bxI (cooI f) (k + 1) = ⟨min (bxI (cooI f) k).a X, min (bxI (cooI f) k).b Y, max (bxI (cooI f) k).c X, max (bxI (cooI f) k).d Y⟩ := by
            conv => lhs; unfold bxI
            dsimp only; rw [if_neg (by omega), hX, hY]
          obtain ⟨i1, i2, i3, i4⟩ := HA.out k hk hP
          generalize bxI (cooI f) k = q at *
          have HBX := Aside0.mk hb
          have kz : ((k : Int) == 0) = false := by simp; omega
          clear h0 h1 hX hY hb hP
          have M1 := fun ts t w => run_fmin Try.prog ts t q.a X (by omega) (by omega) w
          have M2 := fun ts t w => run_fmin Try.prog ts t q.b Y (by omega) (by omega) w
          have M3 := fun ts t w => run_fmax Try.prog ts t q.c X (by omega) (by omega) w
          have M4 := fun ts t w => run_fmax Try.prog ts t q.d Y (by omega) (by omega) w
          go_wp2_with (go_at_call 37; refine (Q.out _).mono ?_; rintro e w' ⟨rfl, rfl⟩)
          all_goals first
            | exact ⟨⟨k + 1, by omega, rfl, HP1.out, fun h => absurd h (by omega), fun _ => by rw [HBX.out]; exact ⟨rfl, rfl⟩⟩, by simp only [intOf]; omega⟩
            | trace_state
    · obtain rfl : k = n := by omega
      rcases Nat.eq_zero_or_pos k with rfl | hk0
      · obtain ⟨rfl, rfl⟩ := h0 rfl
        have e : V = ((0, 0), (0, 0), false) := by rw [← HV.out]; unfold boxV; rw [hP]; rfl
        subst e
        clear hP h0 h1
        go_wp2_with fail
        go_ret3
        exact ⟨rfl, rfl⟩
      · obtain ⟨rfl, rfl⟩ := h1 hk0
        have e := HV.out
        unfold boxV at e
        rw [hP, decide_eq_true hk0] at e
        generalize bxI (cooI f) k = q at *
        change ((enc q.a, enc q.b), (enc q.c, enc q.d), true) = V at e
        subst e
        clear hP h0 h1 HV HF HC
        have kz : decide ((0 : Int) < (k : Int)) = true := decide_eq_true (by omega)
        go_wp2_with fail
        all_goals (first | (go_ret3; exact ⟨rfl, rfl⟩) | trace_state)
set_option maxRecDepth 100000 in
theorem Box_nil (c : Nat) (w : World) : Calls Try.prog 28 #[.slice none 0 c] w fun e w' => e = .returned (.tuple #[.complex .f64 0 0, .complex .f64 0 0, .bool false]) ∧ w' = w := by
  go_enter Try.func28, Try.ntmps28
  go_wp2_with fail
  refine wp_loop_once ?_
  go_wp2_with fail
  go_ret3
  exact ⟨rfl, rfl⟩
end Go.Proofs.Ytkcnfdffemddlaa.Pl
