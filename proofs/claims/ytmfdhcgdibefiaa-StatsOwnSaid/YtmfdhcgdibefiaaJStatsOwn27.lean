/- Texts joined by wip/tools/merge.py: Rx4 Rx5. -/
import Derived.Test.YtmfdhcgdibefiaaJStatsOwn25
import Derived.Test.YtmfdhcgdibefiaaJStatsOwn26
import Derived.Test.YtmfdhcgdibefiaaJStatsOwn24
-- Written by wip/tools/gp.py, a program of this session round the kit's printer. Lean checks it.
namespace Go.Proofs.Ytmfdhcgdibefiaa.R
open Go.RowKit Go.Proofs.Ytmfdhcgdibefiaa.Q Go.Proofs.YtmfdhcgdibefiaaW.PrintWords Go.Proofs.YtmfdhcgdibefiaaW.PrintLast Go.Proofs.YtmfdhcgdibefiaaW.PrintMore
attribute [local go_sem] max2_int min2_int max_two min_two max_three min_three max_four min_four   -- for this text's walks alone
set_option linter.unusedVariables false
set_option linter.unusedSimpArgs false

/-! ### merkhetref27_Own: function 17 -/
mutual
def merkhetref27_Own.l0 : Nat → List (S37) → List Int → List Int → Int → Option (List Int × Bool)
  | 0, _, _, _, _ => none
  | k + 1, x0, x1, x6, x7 => if x7 < (x0.length : Int) then (merkhetref27_Own.l1 k x0 x1 x6 x7 (([] : List (S26))) 0) else (some (x6, true))
def merkhetref27_Own.l1 : Nat → List (S37) → List Int → List Int → Int → List (S26) → Int → Option (List Int × Bool)
  | 0, _, _, _, _, _, _ => none
  | k + 1, x0, x1, x6, x7, x8, x9 => if x9 < (x0.length : Int) then (if 0 ≤ x9 then (if x9 < (x1.length : Int) then (if (rd x1 x9) = x7 then (if 0 ≤ x7 then (if x7 < (x0.length : Int) then (if ((rd_T37 x0 x9).f6) < ((rd_T37 x0 x7).f6) then (merkhetref27_Own.j2 k x0 x1 x6 x7 x8 x9 ((rd_T37 x0 x7).f6) (wrap64 (((rd_T37 x0 x9).f6) + ((rd_T37 x0 x9).f7)))) else (merkhetref27_Own.j2 k x0 x1 x6 x7 x8 x9 ((rd_T37 x0 x9).f6) (wrap64 (((rd_T37 x0 x9).f6) + ((rd_T37 x0 x9).f7))))) else (none)) else (none)) else (merkhetref27_Own.l1 k x0 x1 x6 x7 x8 (wrap64 (x9 + 1)))) else (none)) else (none)) else (if 0 ≤ x7 then (if x7 < (x0.length : Int) then ((merkhetref27_Cover.f x8).bind fun t128 => (if x6.length < 17592186044416 then (merkhetref27_Own.l0 k x0 x1 (x6 ++ [wrap64 (((rd_T37 x0 x7).f7) - (wrap64 (t128)))]) (wrap64 (x7 + 1))) else (none))) else (none)) else (none))
def merkhetref27_Own.j2 : Nat → List (S37) → List Int → List Int → Int → List (S26) → Int → Int → Int → Option (List Int × Bool)
  | 0, _, _, _, _, _, _, _, _ => none
  | k + 1, x0, x1, x6, x7, x8, x9, x10, x11 => if 0 ≤ x7 then (if x7 < (x0.length : Int) then (if x11 > (wrap64 (((rd_T37 x0 x7).f6) + ((rd_T37 x0 x7).f7))) then (if x8.length < 8796093022208 then (merkhetref27_Own.l1 k x0 x1 x6 x7 (x8 ++ [(⟨x10, wrap64 (((rd_T37 x0 x7).f6) + ((rd_T37 x0 x7).f7))⟩ : S26)]) (wrap64 (x9 + 1))) else (none)) else (if x8.length < 8796093022208 then (merkhetref27_Own.l1 k x0 x1 x6 x7 (x8 ++ [(⟨x10, x11⟩ : S26)]) (wrap64 (x9 + 1))) else (none))) else (none)) else (none)
end
def merkhetref27_Own.f (k : Nat) (l0 : List (S37)) (l1 : List Int) : Option (List Int × Bool) := (merkhetref19_Right.f k l0 l1).bind fun t120 => (if t120 = true then (merkhetref27_Own.l0 k l0 l1 (([] : List Int)) 0) else (some (([] : List Int), false)))
theorem merkhetref27_Own.mono_l : ∀ k, (∀ y0 y1 y2 y3, LeO (merkhetref27_Own.l0 k y0 y1 y2 y3) (merkhetref27_Own.l0 (k + 1) y0 y1 y2 y3)) ∧ (∀ y0 y1 y2 y3 y4 y5, LeO (merkhetref27_Own.l1 k y0 y1 y2 y3 y4 y5) (merkhetref27_Own.l1 (k + 1) y0 y1 y2 y3 y4 y5)) ∧ (∀ y0 y1 y2 y3 y4 y5 y6 y7, LeO (merkhetref27_Own.j2 k y0 y1 y2 y3 y4 y5 y6 y7) (merkhetref27_Own.j2 (k + 1) y0 y1 y2 y3 y4 y5 y6 y7))
  | 0 => ⟨fun _ _ _ _ r h => by simp [merkhetref27_Own.l0] at h, fun _ _ _ _ _ _ r h => by simp [merkhetref27_Own.l1] at h, fun _ _ _ _ _ _ _ _ r h => by simp [merkhetref27_Own.j2] at h⟩
  | k + 1 => by
    obtain ⟨ih0, ih1, ih2⟩ := merkhetref27_Own.mono_l k
    refine ⟨?_, ?_, ?_⟩
    · intro y0 y1 y2 y3
      unfold merkhetref27_Own.l0
      repeat' first
      | (with_reducible exact ih0 _ _ _ _)
      | (with_reducible exact ih1 _ _ _ _ _ _)
      | (with_reducible exact ih2 _ _ _ _ _ _ _ _)
      | (with_reducible exact merkhetref19_Right.mono _ _ _)
      | (with_reducible exact LeO.refl _)
      | (with_reducible exact LeO.none _)
      | (with_reducible refine LeO.ite ?_ ?_)
      | (with_reducible refine LeO.bind ?_ (fun _ => ?_))
      | exact ih0 _ _ _ _
      | exact ih1 _ _ _ _ _ _
      | exact ih2 _ _ _ _ _ _ _ _
      | exact merkhetref19_Right.mono _ _ _
      | exact LeO.none _
      | refine LeO.ite ?_ ?_
      | refine LeO.bind ?_ (fun _ => ?_)
    · intro y0 y1 y2 y3 y4 y5
      unfold merkhetref27_Own.l1
      repeat' first
      | (with_reducible exact ih0 _ _ _ _)
      | (with_reducible exact ih1 _ _ _ _ _ _)
      | (with_reducible exact ih2 _ _ _ _ _ _ _ _)
      | (with_reducible exact merkhetref19_Right.mono _ _ _)
      | (with_reducible exact LeO.refl _)
      | (with_reducible exact LeO.none _)
      | (with_reducible refine LeO.ite ?_ ?_)
      | (with_reducible refine LeO.bind ?_ (fun _ => ?_))
      | exact ih0 _ _ _ _
      | exact ih1 _ _ _ _ _ _
      | exact ih2 _ _ _ _ _ _ _ _
      | exact merkhetref19_Right.mono _ _ _
      | exact LeO.none _
      | refine LeO.ite ?_ ?_
      | refine LeO.bind ?_ (fun _ => ?_)
    · intro y0 y1 y2 y3 y4 y5 y6 y7
      unfold merkhetref27_Own.j2
      repeat' first
      | (with_reducible exact ih0 _ _ _ _)
      | (with_reducible exact ih1 _ _ _ _ _ _)
      | (with_reducible exact ih2 _ _ _ _ _ _ _ _)
      | (with_reducible exact merkhetref19_Right.mono _ _ _)
      | (with_reducible exact LeO.refl _)
      | (with_reducible exact LeO.none _)
      | (with_reducible refine LeO.ite ?_ ?_)
      | (with_reducible refine LeO.bind ?_ (fun _ => ?_))
      | exact ih0 _ _ _ _
      | exact ih1 _ _ _ _ _ _
      | exact ih2 _ _ _ _ _ _ _ _
      | exact merkhetref19_Right.mono _ _ _
      | exact LeO.none _
      | refine LeO.ite ?_ ?_
      | refine LeO.bind ?_ (fun _ => ?_)
theorem merkhetref27_Own.mono : ∀ a0 a1 k, LeO (merkhetref27_Own.f k a0 a1) (merkhetref27_Own.f (k + 1) a0 a1) := by
  intro a0 a1 k
  obtain ⟨ih0, ih1, ih2⟩ := merkhetref27_Own.mono_l k
  unfold merkhetref27_Own.f
  repeat' first
      | (with_reducible exact ih0 _ _ _ _)
      | (with_reducible exact ih1 _ _ _ _ _ _)
      | (with_reducible exact ih2 _ _ _ _ _ _ _ _)
      | (with_reducible exact merkhetref19_Right.mono _ _ _)
      | (with_reducible exact LeO.refl _)
      | (with_reducible exact LeO.none _)
      | (with_reducible refine LeO.ite ?_ ?_)
      | (with_reducible refine LeO.bind ?_ (fun _ => ?_))
      | exact ih0 _ _ _ _
      | exact ih1 _ _ _ _ _ _
      | exact ih2 _ _ _ _ _ _ _ _
      | exact merkhetref19_Right.mono _ _ _
      | exact LeO.none _
      | refine LeO.ite ?_ ?_
      | refine LeO.bind ?_ (fun _ => ?_)
def merkhetref27_Own.T12 : Bool × List (List Nat × List Nat) := (true, [([], []), ([], []), ([0, 1], [0, 1]), ([2], [2]), ([3], [3]), ([], []), ([], []), ([5, 6], [5, 6]), ([7], [7]), ([8], [8]), ([], []), ([], []), ([10, 11], [10, 11]), ([12], [12]), ([13], [13]), ([9, 14], [9, 14]), ([4, 0, 1, 2, 3, 4], [4]), ([15, 16, 0, 1, 2, 3, 4, 5, 6, 7, 8, 9, 10, 11, 12, 13, 14, 15, 16], [15])])
def merkhetref27_Own.B12 : List Nat := [0, 0, 3, 7, 15, 0, 0, 96, 224, 480, 0, 0, 3072, 7168, 15360, 32736, 31, 131071]
theorem merkhetref27_Own.tab12 : rtab .any (opsOf Try.f17 12) = merkhetref27_Own.T12 := by kernel_rfl
theorem merkhetref27_Own.bits12 : waitsOk merkhetref27_Own.T12.2 merkhetref27_Own.B12 = true := by kernel_rfl
def merkhetref27_Own.T15 : Bool × List (List Nat × List Nat) := (true, [([], []), ([], []), ([], []), ([1, 2], [1, 2]), ([3], [3]), ([4], [4]), ([], []), ([], []), ([6, 7], [6, 7]), ([8], [8]), ([9], [9]), ([5, 10], [5, 10]), ([0, 11], [0, 11])])
def merkhetref27_Own.B15 : List Nat := [0, 0, 0, 6, 14, 30, 0, 0, 192, 448, 960, 2046, 4095]
theorem merkhetref27_Own.tab15 : rtab .any (opsOf Try.f17 15) = merkhetref27_Own.T15 := by kernel_rfl
theorem merkhetref27_Own.bits15 : waitsOk merkhetref27_Own.T15.2 merkhetref27_Own.B15 = true := by kernel_rfl
def merkhetref27_Own.T16 : Bool × List (List Nat × List Nat) := (true, [([], []), ([], []), ([0, 1], [0, 1]), ([2], [2]), ([3], [3]), ([], []), ([], []), ([5, 6], [5, 6]), ([7], [7]), ([8], [8]), ([4, 9], [4, 9]), ([10, 0, 1, 2, 3, 4, 5, 6, 7, 8, 9, 10], [10])])
def merkhetref27_Own.B16 : List Nat := [0, 0, 3, 7, 15, 0, 0, 96, 224, 480, 1023, 2047]
theorem merkhetref27_Own.tab16 : rtab .any (opsOf Try.f17 16) = merkhetref27_Own.T16 := by kernel_rfl
theorem merkhetref27_Own.bits16 : waitsOk merkhetref27_Own.T16.2 merkhetref27_Own.B16 = true := by kernel_rfl
def merkhetref27_Own.T18 : Bool × List (List Nat × List Nat) := (true, [([], []), ([], []), ([], []), ([1, 2], [1, 2]), ([3], [3]), ([4], [4]), ([], []), ([6], [6]), ([7], [7]), ([5, 8], [5, 8]), ([9], [9]), ([0, 10, 7], [0, 10]), ([11, 11, 0, 1, 2, 3, 4, 5, 6, 7, 8, 9, 10, 11], [0, 11])])
def merkhetref27_Own.B18 : List Nat := [0, 0, 0, 6, 14, 30, 0, 64, 192, 510, 1022, 2047, 4095]
theorem merkhetref27_Own.tab18 : rtab .any (opsOf Try.f17 18) = merkhetref27_Own.T18 := by kernel_rfl
theorem merkhetref27_Own.bits18 : waitsOk merkhetref27_Own.T18.2 merkhetref27_Own.B18 = true := by kernel_rfl
set_option maxHeartbeats 8000000 in
set_option maxRecDepth 100000 in
theorem merkhetref27_Own.calls (k : Nat) (A0 : Option Addr) (c0 : Nat) (l0 : List (S37)) (A1 : Option Addr) (c1 : Nat) (l1 : List Int) (r1 : List Int) (r2 : Bool) (w : World) (hr0 : Kd.C k37 w A0 l0.length l0) (hc0 : l0.length ≤ c0) (hr1 : Kd.C (Kd.int .i64) w A1 l1.length l1) (hc1 : l1.length ≤ c1) (h : merkhetref27_Own.f k l0 l1 = some (r1, r2)) :
    Calls Try.prog 17 #[.slice A0 l0.length c0, .slice A1 l1.length c1] w fun e w' => ∃ v0_ : Value, e = .returned (.tuple #[v0_, .bool r2]) ∧ Kd.R (Kd.int .i64) 2 w' w.heap.size (fun _ => True) v0_ r1 ∧ Below w.heap.size w w' := by
  have hu26 := Try.underlying26
  have HR0 := Aside0.mk hr0
  have HC0 := Aside0.mk hc0
  clear hr0 hc0
  have HR1 := Aside0.mk hr1
  have HC1 := Aside0.mk hc1
  clear hr1 hc1
  have HB := Aside0.mk (Below.refl w.heap.size w)
  have H : ((merkhetref19_Right.f k l0 l1).bind fun t120 => (if t120 = true then (merkhetref27_Own.l0 k l0 l1 (([] : List Int)) 0) else (some (([] : List Int), false)))) = some (r1, r2) := h
  clear h
  replace H := Option.bind_eq_some_iff.mp H
  obtain ⟨t120, A30, H⟩ := H
  replace H : (if t120 = true then (merkhetref27_Own.l0 k l0 l1 (([] : List Int)) 0) else (some (([] : List Int), false))) = some (r1, r2) := H
  have A3 := Aside0.mk A30
  clear A30
  by_cases c4 : t120 = true
  · subst c4
    have H1 : (merkhetref27_Own.l0 k l0 l1 (([] : List Int)) 0) = some (r1, r2) := by rw [if_pos rfl] at H; exact H
    clear H
    have H := H1
    clear H1
    obtain ⟨y121, hy121⟩ : ∃ y_ : List Int, y_ = (([] : List Int)) := ⟨_, rfl⟩
    replace H : (merkhetref27_Own.l0 k l0 l1 y121 0) = some (r1, r2) := by first | (rw [hy121]; with_reducible exact H) | (have H2_ := (Option.bind_some _ _).symm.trans H; rw [hy121]; with_reducible exact H2_) | (have H2_ := (Option.bind_some _ _).symm.trans H; with_reducible exact H2_) | with_reducible exact H | (rw [hy121]; exact H) | exact H
    have Ny121 := Aside0.mk hy121
    clear hy121
    have H' := Aside0.mk H
    clear H
    go_enter Try.func17, Try.ntmps17
    go_wp2_with (first | ((with_reducible refine gate_callee (f := 45) rfl ?_); refine goesL_ (some 14) rfl rfl Try.func45 (by kernel_rfl) rfl #[.slice A0 l0.length c0, .slice A1 l1.length c1] rfl (by (try simp only [List.map_toArray, List.map_cons, List.map_nil]); first | done | rfl | (simp only [List.length_drop, List.length_take]; rfl)) ?_; (with_reducible refine (merkhetref19_Right.calls k _ _ l0 _ _ l1 true _ ?side1 ?side2 ?side3 ?side4 A3.out).mono ?_); (case side1 => repeat (first | exact HR0.out | (with_reducible refine Kd.C_alloc ?_ _) | (with_reducible refine Kd.C_drewN ?_ _) | (with_reducible refine Kd.C_drew ?_))); (case side2 => exact HC0.out); (case side3 => repeat (first | exact HR1.out | (with_reducible refine Kd.C_alloc ?_ _) | (with_reducible refine Kd.C_drewN ?_ _) | (with_reducible refine Kd.C_drew ?_))); (case side4 => exact HC1.out); rintro e w5 ⟨rfl, hb⟩; refine ⟨_, rfl, ?_⟩; have n0_ := Aside0.mk (below_step (by repeat (first | (with_reducible first | exact HB.out | apply below_alloc | apply pw_below_drewN | apply below_drew1) | exact HB.out)) hb); clear HB; have HB := n0_; clear n0_; (try clear hb); (try clear hb2); (try clear hk); (try clear hi)) | ((with_reducible refine gate_dst (N := 16) rfl ?_); refine Kd.R_lit (Kd.int .i64) _ 2 ?hg (N := 16) ?hd (xs := ([] : List Int)) (inner := []) (ok := fun _ => True) (okp := fun _ => True) ?hr ?hp (fun _ hk => hk) trivial (Below.refl _ _) (Nat.le_refl _) (by simp) ?_; (case hd => rfl); (case hg => rfl); (case hr => first | (go_simp; done) | (go_simp; rfl)); (case hp => exact (Reps.none _ _)); intro v122 w6 ho7 hb hg_ hnew_; clear hg_ hnew_; (first | rw [← Ny121.out] at ho7 | (simp only [Int.reduceToNat] at ho7; rw [← Ny121.out] at ho7)); have n0_ := Aside0.mk (Kd.R_lower ho7 (below_size (by repeat (first | (with_reducible first | exact HB.out | apply below_alloc | apply pw_below_drewN | apply below_drew1) | exact HB.out)))); have n1_ := Aside0.mk (below_step (by repeat (first | (with_reducible first | exact HB.out | apply below_alloc | apply pw_below_drewN | apply below_drew1) | exact HB.out)) hb); clear HB; have HO123 := n0_; have HB := n1_; clear n0_ n1_; clear hb ho7))
    go_loopg [6, 7] k (fun kq v6 v7 w' => ∃ (x6_1 : List Int) (x7_1 : Int), v7 = .int .i64 x7_1 ∧ Aside0 (merkhetref27_Own.l0 kq l0 l1 x6_1 x7_1 = some (r1, r2)) ∧ Aside0 (kq ≤ k) ∧ Aside0 (Kd.R (Kd.int .i64) 2 w' w.heap.size (fun _ => True) v6 x6_1) ∧ Aside0 (Below w.heap.size w w'))
    case atStart => exact ⟨(y121), (0), (by first | rfl | (simp; done) | (simp [*]; done)), H', ⟨Nat.le_refl _⟩, ⟨by (with_reducible repeat (first | apply Kd.R_alloc | apply Kd.R_drewN | apply Kd.R_drew)); exact HO123.out⟩, ⟨by repeat (first | (with_reducible first | exact HB.out | apply below_alloc | apply pw_below_drewN | apply below_drew1) | exact HB.out)⟩⟩
    case round =>
      clear H'
      (try clear c1); (try clear p2); (try clear c4)
      obtain ⟨x6_1, x7_1, rfl, HA, HK1, HO_6, HB⟩ := hrel
      cases gk with
      | zero => exact absurd HA.out (by simp [merkhetref27_Own.l0])
      | succ k1 =>
        have H := HA.out
        clear HA
        simp only [merkhetref27_Own.l0] at H
        by_cases c8 : x7_1 < (l0.length : Int)
        · rw [if_pos c8] at H
          have c8b0 : decide (x7_1 < (l0.length : Int)) = true := decide_eq_true c8
          clear c8
          obtain ⟨y124, hy124⟩ : ∃ y_ : List (S26), y_ = (([] : List (S26))) := ⟨_, rfl⟩
          replace H : (merkhetref27_Own.l1 k1 l0 l1 x6_1 x7_1 y124 0) = some (r1, r2) := by first | (rw [hy124]; with_reducible exact H) | (have H2_ := (Option.bind_some _ _).symm.trans H; rw [hy124]; with_reducible exact H2_) | (have H2_ := (Option.bind_some _ _).symm.trans H; with_reducible exact H2_) | with_reducible exact H | (rw [hy124]; exact H) | exact H
          have Ny124 := Aside0.mk hy124
          clear hy124
          have H' := Aside0.mk H
          clear H
          go_wp2_with (first | ((with_reducible refine gate_dst (N := 23) rfl ?_); refine Kd.R_lit k26 _ 26 ?hg (N := 23) ?hd (xs := ([] : List (S26))) (inner := []) (ok := fun _ => True) (okp := fun _ => True) ?hr ?hp (fun _ hk => hk) trivial (Below.refl _ _) (Nat.le_refl _) (by simp) ?_; (case hd => rfl); (case hg => rfl); (case hr => first | (go_simp; done) | (go_simp; rfl)); (case hp => exact (Reps.none _ _)); intro v125 w9 ho10 hb hg_ hnew_; clear hg_ hnew_; (first | rw [← Ny124.out] at ho10 | (simp only [Int.reduceToNat] at ho10; rw [← Ny124.out] at ho10)); have n0_ := Aside0.mk (Kd.R_below (by (with_reducible repeat (first | apply Kd.R_alloc | apply Kd.R_drewN | apply Kd.R_drew)); exact HO_6.out) hb); have n1_ := Aside0.mk (Kd.R_lower ho10 (below_size (by repeat (first | (with_reducible first | exact HB.out | apply below_alloc | apply pw_below_drewN | apply below_drew1) | exact HB.out)))); have n2_ := Aside0.mk (below_step (by repeat (first | (with_reducible first | exact HB.out | apply below_alloc | apply pw_below_drewN | apply below_drew1) | exact HB.out)) hb); clear HO_6; clear HB; have HO_6 := n0_; have HO126 := n1_; have HB := n2_; clear n0_ n1_ n2_; clear hb ho10))
          go_loopg [8, 9] k1 (fun kq v8 v9 w' => ∃ (x8_2 : List (S26)) (x9_2 : Int), v9 = .int .i64 x9_2 ∧ Aside0 (merkhetref27_Own.l1 kq l0 l1 x6_1 x7_1 x8_2 x9_2 = some (r1, r2)) ∧ Aside0 (kq ≤ k1) ∧ Aside0 (Kd.R (Kd.int .i64) 2 w' w.heap.size (fun _ => True) u6 x6_1) ∧ Aside0 (Kd.R k26 26 w' w.heap.size (fun _ => True) v8 x8_2) ∧ Aside0 (Below w.heap.size w w'))
          case atStart => exact ⟨(y124), (0), (by first | rfl | (simp; done) | (simp [*]; done)), H', ⟨Nat.le_refl _⟩, ⟨by (with_reducible repeat (first | apply Kd.R_alloc | apply Kd.R_drewN | apply Kd.R_drew)); exact HO_6.out⟩, ⟨by (with_reducible repeat (first | apply Kd.R_alloc | apply Kd.R_drewN | apply Kd.R_drew)); exact HO126.out⟩, ⟨by repeat (first | (with_reducible first | exact HB.out | apply below_alloc | apply pw_below_drewN | apply below_drew1) | exact HB.out)⟩⟩
          case round =>
            clear H'
            (try clear c1); (try clear p2); (try clear c4); (try clear c8); (try clear c8b0); (try clear p2)
            obtain ⟨x8_2, x9_2, rfl, HA, HK2, HO_6, HO_8, HB⟩ := hrel
            cases gk with
            | zero => exact absurd HA.out (by simp [merkhetref27_Own.l1])
            | succ k2 =>
              have H := HA.out
              clear HA
              simp only [merkhetref27_Own.l1] at H
              by_cases c11 : x9_2 < (l0.length : Int)
              · rw [if_pos c11] at H
                have c11b0 : decide (x9_2 < (l0.length : Int)) = true := decide_eq_true c11
                clear c11
                by_cases c12 : 0 ≤ x9_2
                · rw [if_pos c12] at H
                  have c12b0 : decide (0 ≤ x9_2) = true := decide_eq_true c12
                  clear c12
                  by_cases c13 : x9_2 < (l1.length : Int)
                  · rw [if_pos c13] at H
                    have c13b0 : decide (x9_2 < (l1.length : Int)) = true := decide_eq_true c13
                    clear c13
                    by_cases c14 : (rd l1 x9_2) = x7_1
                    · rw [if_pos c14] at H
                      have c14b0 : ((rd l1 x9_2) == x7_1) = true := beq_iff_eq.mpr c14
                      have c14b1 : ((rd l1 x9_2) != x7_1) = false := bne_eq_false_iff_eq.mpr c14
                      clear c14
                      by_cases c15 : 0 ≤ x7_1
                      · rw [if_pos c15] at H
                        have c15b0 : decide (0 ≤ x7_1) = true := decide_eq_true c15
                        clear c15
                        by_cases c16 : x7_1 < (l0.length : Int)
                        · rw [if_pos c16] at H
                          have c16b0 : decide (x7_1 < (l0.length : Int)) = true := decide_eq_true c16
                          clear c16
                          have HC17 := Aside0.mk H
                          clear H
                          have p132 : 0 ≤ (x9_2 : Int) := of_decide_eq_true (by first | (with_reducible assumption) | assumption)
                          have q132 : x9_2 < (l1.length : Int) := of_decide_eq_true (by first | (with_reducible assumption) | assumption)
                          obtain ⟨ad132, e132, hx132_0⟩ := Kd.at_int HR1.out x9_2 p132 q132
                          cases e132
                          replace hx132_0 := (HB.out.cell (World.block_lt_of_cell? w _ hx132_0)).trans hx132_0
                          replace p132 := eq_true p132
                          replace q132 := eq_true q132
                          try go_wp2
                          have n0_ := Aside0.mk (Kd.R_drew HO_6.out)
                          have n1_ := Aside0.mk (Kd.R_drew HO_8.out)
                          have n2_ := Aside0.mk (below_drew1 HB.out)
                          clear HO_6
                          clear HO_8
                          clear HB
                          have HO_6 := n0_
                          have HO_8 := n1_
                          have HB := n2_
                          clear n0_ n1_ n2_
                          have p133 : 0 ≤ (x9_2 : Int) := of_decide_eq_true (by first | (with_reducible assumption) | assumption)
                          have q133 : x9_2 < (l0.length : Int) := of_decide_eq_true (by first | (with_reducible assumption) | assumption)
                          obtain ⟨ad133, e133, hx133_0, hx133_1, hx133_2, hx133_3, hx133_4, hx133_5, hx133_6, hx133_7⟩ := at_T37 HR0.out x9_2 p133 q133
                          have hw133_7 := hx133_7
                          have hw133_6 := hx133_6
                          have hw133_5 := hx133_5
                          have hw133_4 := hx133_4
                          have hw133_3 := hx133_3
                          have hw133_2 := hx133_2
                          have hw133_1 := hx133_1
                          have hw133_0 := hx133_0
                          cases e133
                          replace hx133_0 := (HB.out.cell (World.block_lt_of_cell? w _ hx133_0)).trans hx133_0
                          replace hx133_1 := (HB.out.cell (World.block_lt_of_cell? w _ hx133_1)).trans hx133_1
                          replace hx133_2 := (HB.out.cell (World.block_lt_of_cell? w _ hx133_2)).trans hx133_2
                          replace hx133_3 := (HB.out.cell (World.block_lt_of_cell? w _ hx133_3)).trans hx133_3
                          replace hx133_4 := (HB.out.cell (World.block_lt_of_cell? w _ hx133_4)).trans hx133_4
                          replace hx133_5 := (HB.out.cell (World.block_lt_of_cell? w _ hx133_5)).trans hx133_5
                          replace hx133_6 := (HB.out.cell (World.block_lt_of_cell? w _ hx133_6)).trans hx133_6
                          replace hx133_7 := (HB.out.cell (World.block_lt_of_cell? w _ hx133_7)).trans hx133_7
                          replace p133 := eq_true p133
                          replace q133 := eq_true q133
                          have p134 : 0 ≤ (x9_2 : Int) := of_decide_eq_true (by first | (with_reducible assumption) | assumption)
                          have q134 : x9_2 < (l0.length : Int) := of_decide_eq_true (by first | (with_reducible assumption) | assumption)
                          obtain ⟨ad134, e134, hx134_0, hx134_1, hx134_2, hx134_3, hx134_4, hx134_5, hx134_6, hx134_7⟩ := at_T37 HR0.out x9_2 p134 q134
                          have hw134_7 := hx134_7
                          have hw134_6 := hx134_6
                          have hw134_5 := hx134_5
                          have hw134_4 := hx134_4
                          have hw134_3 := hx134_3
                          have hw134_2 := hx134_2
                          have hw134_1 := hx134_1
                          have hw134_0 := hx134_0
                          obtain rfl : ad133 = ad134 := (by injection e134)
                          replace hx134_0 := (HB.out.cell (World.block_lt_of_cell? w _ hx134_0)).trans hx134_0
                          replace hx134_1 := (HB.out.cell (World.block_lt_of_cell? w _ hx134_1)).trans hx134_1
                          replace hx134_2 := (HB.out.cell (World.block_lt_of_cell? w _ hx134_2)).trans hx134_2
                          replace hx134_3 := (HB.out.cell (World.block_lt_of_cell? w _ hx134_3)).trans hx134_3
                          replace hx134_4 := (HB.out.cell (World.block_lt_of_cell? w _ hx134_4)).trans hx134_4
                          replace hx134_5 := (HB.out.cell (World.block_lt_of_cell? w _ hx134_5)).trans hx134_5
                          replace hx134_6 := (HB.out.cell (World.block_lt_of_cell? w _ hx134_6)).trans hx134_6
                          replace hx134_7 := (HB.out.cell (World.block_lt_of_cell? w _ hx134_7)).trans hx134_7
                          replace p134 := eq_true p134
                          replace q134 := eq_true q134
                          have p135 : 0 ≤ (x9_2 : Int) := of_decide_eq_true (by first | (with_reducible assumption) | assumption)
                          have q135 : x9_2 < (l0.length : Int) := of_decide_eq_true (by first | (with_reducible assumption) | assumption)
                          obtain ⟨ad135, e135, hx135_0, hx135_1, hx135_2, hx135_3, hx135_4, hx135_5, hx135_6, hx135_7⟩ := at_T37 HR0.out x9_2 p135 q135
                          have hw135_7 := hx135_7
                          have hw135_6 := hx135_6
                          have hw135_5 := hx135_5
                          have hw135_4 := hx135_4
                          have hw135_3 := hx135_3
                          have hw135_2 := hx135_2
                          have hw135_1 := hx135_1
                          have hw135_0 := hx135_0
                          obtain rfl : ad133 = ad135 := (by injection e135)
                          replace hx135_0 := (HB.out.cell (World.block_lt_of_cell? w _ hx135_0)).trans hx135_0
                          replace hx135_1 := (HB.out.cell (World.block_lt_of_cell? w _ hx135_1)).trans hx135_1
                          replace hx135_2 := (HB.out.cell (World.block_lt_of_cell? w _ hx135_2)).trans hx135_2
                          replace hx135_3 := (HB.out.cell (World.block_lt_of_cell? w _ hx135_3)).trans hx135_3
                          replace hx135_4 := (HB.out.cell (World.block_lt_of_cell? w _ hx135_4)).trans hx135_4
                          replace hx135_5 := (HB.out.cell (World.block_lt_of_cell? w _ hx135_5)).trans hx135_5
                          replace hx135_6 := (HB.out.cell (World.block_lt_of_cell? w _ hx135_6)).trans hx135_6
                          replace hx135_7 := (HB.out.cell (World.block_lt_of_cell? w _ hx135_7)).trans hx135_7
                          replace p135 := eq_true p135
                          replace q135 := eq_true q135
                          refine start_ (n := 18) (S := fun w' => w'.cell? (ad133.add ((x9_2).toNat * 8)) = some (.int .u64 ((rd_T37 l0 x9_2).f0)) ∧ w'.cell? ⟨(ad133.add ((x9_2).toNat * 8)).block, (ad133.add ((x9_2).toNat * 8)).off + 1, none⟩ = some (.int .u64 ((rd_T37 l0 x9_2).f1)) ∧ w'.cell? ⟨(ad133.add ((x9_2).toNat * 8)).block, (ad133.add ((x9_2).toNat * 8)).off + 2, none⟩ = some (.int .u64 ((rd_T37 l0 x9_2).f2)) ∧ w'.cell? ⟨(ad133.add ((x9_2).toNat * 8)).block, (ad133.add ((x9_2).toNat * 8)).off + 3, none⟩ = some (.int .u8 ((rd_T37 l0 x9_2).f3)) ∧ w'.cell? ⟨(ad133.add ((x9_2).toNat * 8)).block, (ad133.add ((x9_2).toNat * 8)).off + 4, none⟩ = some (.string ((rd_T37 l0 x9_2).f4)) ∧ w'.cell? ⟨(ad133.add ((x9_2).toNat * 8)).block, (ad133.add ((x9_2).toNat * 8)).off + 5, none⟩ = some (.string ((rd_T37 l0 x9_2).f5)) ∧ w'.cell? ⟨(ad133.add ((x9_2).toNat * 8)).block, (ad133.add ((x9_2).toNat * 8)).off + 6, none⟩ = some (.int .i64 ((rd_T37 l0 x9_2).f6)) ∧ w'.cell? ⟨(ad133.add ((x9_2).toNat * 8)).block, (ad133.add ((x9_2).toNat * 8)).off + 7, none⟩ = some (.int .i64 ((rd_T37 l0 x9_2).f7)) ∧ w'.cell? (ad133.add ((x9_2).toNat * 8)) = some (.int .u64 ((rd_T37 l0 x9_2).f0)) ∧ w'.cell? ⟨(ad133.add ((x9_2).toNat * 8)).block, (ad133.add ((x9_2).toNat * 8)).off + 1, none⟩ = some (.int .u64 ((rd_T37 l0 x9_2).f1)) ∧ w'.cell? ⟨(ad133.add ((x9_2).toNat * 8)).block, (ad133.add ((x9_2).toNat * 8)).off + 2, none⟩ = some (.int .u64 ((rd_T37 l0 x9_2).f2)) ∧ w'.cell? ⟨(ad133.add ((x9_2).toNat * 8)).block, (ad133.add ((x9_2).toNat * 8)).off + 3, none⟩ = some (.int .u8 ((rd_T37 l0 x9_2).f3)) ∧ w'.cell? ⟨(ad133.add ((x9_2).toNat * 8)).block, (ad133.add ((x9_2).toNat * 8)).off + 4, none⟩ = some (.string ((rd_T37 l0 x9_2).f4)) ∧ w'.cell? ⟨(ad133.add ((x9_2).toNat * 8)).block, (ad133.add ((x9_2).toNat * 8)).off + 5, none⟩ = some (.string ((rd_T37 l0 x9_2).f5)) ∧ w'.cell? ⟨(ad133.add ((x9_2).toNat * 8)).block, (ad133.add ((x9_2).toNat * 8)).off + 6, none⟩ = some (.int .i64 ((rd_T37 l0 x9_2).f6)) ∧ w'.cell? ⟨(ad133.add ((x9_2).toNat * 8)).block, (ad133.add ((x9_2).toNat * 8)).off + 7, none⟩ = some (.int .i64 ((rd_T37 l0 x9_2).f7)) ∧ w'.cell? (ad133.add ((x9_2).toNat * 8)) = some (.int .u64 ((rd_T37 l0 x9_2).f0)) ∧ w'.cell? ⟨(ad133.add ((x9_2).toNat * 8)).block, (ad133.add ((x9_2).toNat * 8)).off + 1, none⟩ = some (.int .u64 ((rd_T37 l0 x9_2).f1)) ∧ w'.cell? ⟨(ad133.add ((x9_2).toNat * 8)).block, (ad133.add ((x9_2).toNat * 8)).off + 2, none⟩ = some (.int .u64 ((rd_T37 l0 x9_2).f2)) ∧ w'.cell? ⟨(ad133.add ((x9_2).toNat * 8)).block, (ad133.add ((x9_2).toNat * 8)).off + 3, none⟩ = some (.int .u8 ((rd_T37 l0 x9_2).f3)) ∧ w'.cell? ⟨(ad133.add ((x9_2).toNat * 8)).block, (ad133.add ((x9_2).toNat * 8)).off + 4, none⟩ = some (.string ((rd_T37 l0 x9_2).f4)) ∧ w'.cell? ⟨(ad133.add ((x9_2).toNat * 8)).block, (ad133.add ((x9_2).toNat * 8)).off + 5, none⟩ = some (.string ((rd_T37 l0 x9_2).f5)) ∧ w'.cell? ⟨(ad133.add ((x9_2).toNat * 8)).block, (ad133.add ((x9_2).toNat * 8)).off + 6, none⟩ = some (.int .i64 ((rd_T37 l0 x9_2).f6)) ∧ w'.cell? ⟨(ad133.add ((x9_2).toNat * 8)).block, (ad133.add ((x9_2).toNat * 8)).off + 7, none⟩ = some (.int .i64 ((rd_T37 l0 x9_2).f7))) (ds := []) #[false, false, false, false, false, false, false, false, false, false, false, false, false, false, false, false, false, false] (by kernel_rfl) rfl rfl ⟨((HB.out.cell (World.block_lt_of_cell? w _ hw133_0)).trans hw133_0), ((HB.out.cell (World.block_lt_of_cell? w _ hw133_1)).trans hw133_1), ((HB.out.cell (World.block_lt_of_cell? w _ hw133_2)).trans hw133_2), ((HB.out.cell (World.block_lt_of_cell? w _ hw133_3)).trans hw133_3), ((HB.out.cell (World.block_lt_of_cell? w _ hw133_4)).trans hw133_4), ((HB.out.cell (World.block_lt_of_cell? w _ hw133_5)).trans hw133_5), ((HB.out.cell (World.block_lt_of_cell? w _ hw133_6)).trans hw133_6), ((HB.out.cell (World.block_lt_of_cell? w _ hw133_7)).trans hw133_7), ((HB.out.cell (World.block_lt_of_cell? w _ hw134_0)).trans hw134_0), ((HB.out.cell (World.block_lt_of_cell? w _ hw134_1)).trans hw134_1), ((HB.out.cell (World.block_lt_of_cell? w _ hw134_2)).trans hw134_2), ((HB.out.cell (World.block_lt_of_cell? w _ hw134_3)).trans hw134_3), ((HB.out.cell (World.block_lt_of_cell? w _ hw134_4)).trans hw134_4), ((HB.out.cell (World.block_lt_of_cell? w _ hw134_5)).trans hw134_5), ((HB.out.cell (World.block_lt_of_cell? w _ hw134_6)).trans hw134_6), ((HB.out.cell (World.block_lt_of_cell? w _ hw134_7)).trans hw134_7), ((HB.out.cell (World.block_lt_of_cell? w _ hw135_0)).trans hw135_0), ((HB.out.cell (World.block_lt_of_cell? w _ hw135_1)).trans hw135_1), ((HB.out.cell (World.block_lt_of_cell? w _ hw135_2)).trans hw135_2), ((HB.out.cell (World.block_lt_of_cell? w _ hw135_3)).trans hw135_3), ((HB.out.cell (World.block_lt_of_cell? w _ hw135_4)).trans hw135_4), ((HB.out.cell (World.block_lt_of_cell? w _ hw135_5)).trans hw135_5), ((HB.out.cell (World.block_lt_of_cell? w _ hw135_6)).trans hw135_6), ((HB.out.cell (World.block_lt_of_cell? w _ hw135_7)).trans hw135_7)⟩ (fun hHeld => ?_); refine with_tabW merkhetref27_Own.tab12 merkhetref27_Own.bits12 (fun HT_ HW_ => ?_)
                          generalize wr.drew = w18 at HO_6 HO_8 HB hx133_0 hx133_1 hx133_2 hx133_3 hx133_4 hx133_5 hx133_6 hx133_7 hx134_0 hx134_1 hx134_2 hx134_3 hx134_4 hx134_5 hx134_6 hx134_7 hx135_0 hx135_1 hx135_2 hx135_3 hx135_4 hx135_5 hx135_6 hx135_7 hHeld ⊢
                          refine pure_ (i := 0) (N := some 36) (v := ?_) (a' := ?_) #[true, false, false, false, false, false, false, false, false, false, false, false, false, false, false, false, false, false] rfl rfl (any_of HT_.out (by kernel_rfl)) (fun _ _ _ h => h) (Or.inl ⟨by rfl, ?_⟩) ?_ ?_
                          rotate_left
                          · intro w'
                            go_simp
                            with_reducible rfl
                          rotate_left
                          · simp only [Act.put, List.setIfInBounds_toArray, List.set_cons_zero, List.set_cons_succ, i64_w, i32_w]
                            rfl
                          refine pure_ (i := 1) (N := some 37) (v := ?_) (a' := ?_) #[true, true, false, false, false, false, false, false, false, false, false, false, false, false, false, false, false, false] rfl rfl (any_of HT_.out (by kernel_rfl)) (fun _ _ _ h => h) (Or.inl ⟨by rfl, ?_⟩) ?_ ?_
                          rotate_left
                          · intro w'
                            go_simp
                            with_reducible rfl
                          rotate_left
                          · simp only [Act.put, List.setIfInBounds_toArray, List.set_cons_zero, List.set_cons_succ, i64_w, i32_w]
                            rfl
                          refine pure_ (i := 2) (N := some 38) (v := ?_) (a' := ?_) #[true, true, true, false, false, false, false, false, false, false, false, false, false, false, false, false, false, false] rfl rfl (any_of HT_.out (by kernel_rfl)) (fun _ _ _ h => h) (Or.inl ⟨by rfl, ?_⟩) ?_ ?_
                          rotate_left
                          · intro w'
                            go_simp
                            with_reducible rfl
                          rotate_left
                          · simp only [Act.put, List.setIfInBounds_toArray, List.set_cons_zero, List.set_cons_succ, i64_w, i32_w]
                            rfl
                          refine pure_ (i := 3) (N := some 39) (v := ?_) (a' := ?_) #[true, true, true, true, false, false, false, false, false, false, false, false, false, false, false, false, false, false] rfl rfl (any_of HT_.out (by kernel_rfl)) (fun _ _ _ h => h) (Or.inl ⟨by rfl, ?_⟩) ?_ ?_
                          rotate_left
                          · intro w'
                            go_simp
                            with_reducible rfl
                          rotate_left
                          · simp only [Act.put, List.setIfInBounds_toArray, List.set_cons_zero, List.set_cons_succ, i64_w, i32_w]
                            rfl
                          refine pure_ (i := 5) (N := some 41) (v := ?_) (a' := ?_) #[true, true, true, true, false, true, false, false, false, false, false, false, false, false, false, false, false, false] rfl rfl (any_of HT_.out (by kernel_rfl)) (fun _ _ _ h => h) (Or.inl ⟨by rfl, ?_⟩) ?_ ?_
                          rotate_left
                          · intro w'
                            go_simp
                            with_reducible rfl
                          rotate_left
                          · simp only [Act.put, List.setIfInBounds_toArray, List.set_cons_zero, List.set_cons_succ, i64_w, i32_w]
                            rfl
                          refine pure_ (i := 6) (N := some 42) (v := ?_) (a' := ?_) #[true, true, true, true, false, true, true, false, false, false, false, false, false, false, false, false, false, false] rfl rfl (any_of HT_.out (by kernel_rfl)) (fun _ _ _ h => h) (Or.inl ⟨by rfl, ?_⟩) ?_ ?_
                          rotate_left
                          · intro w'
                            go_simp
                            with_reducible rfl
                          rotate_left
                          · simp only [Act.put, List.setIfInBounds_toArray, List.set_cons_zero, List.set_cons_succ, i64_w, i32_w]
                            rfl
                          refine pure_ (i := 7) (N := some 43) (v := ?_) (a' := ?_) #[true, true, true, true, false, true, true, true, false, false, false, false, false, false, false, false, false, false] rfl rfl (any_of HT_.out (by kernel_rfl)) (fun _ _ _ h => h) (Or.inl ⟨by rfl, ?_⟩) ?_ ?_
                          rotate_left
                          · intro w'
                            go_simp
                            with_reducible rfl
                          rotate_left
                          · simp only [Act.put, List.setIfInBounds_toArray, List.set_cons_zero, List.set_cons_succ, i64_w, i32_w]
                            rfl
                          refine pure_ (i := 8) (N := some 44) (v := ?_) (a' := ?_) #[true, true, true, true, false, true, true, true, true, false, false, false, false, false, false, false, false, false] rfl rfl (any_of HT_.out (by kernel_rfl)) (fun _ _ _ h => h) (Or.inl ⟨by rfl, ?_⟩) ?_ ?_
                          rotate_left
                          · intro w'
                            go_simp
                            with_reducible rfl
                          rotate_left
                          · simp only [Act.put, List.setIfInBounds_toArray, List.set_cons_zero, List.set_cons_succ, i64_w, i32_w]
                            rfl
                          refine pure_ (i := 10) (N := some 46) (v := ?_) (a' := ?_) #[true, true, true, true, false, true, true, true, true, false, true, false, false, false, false, false, false, false] rfl rfl (any_of HT_.out (by kernel_rfl)) (fun _ _ _ h => h) (Or.inl ⟨by rfl, ?_⟩) ?_ ?_
                          rotate_left
                          · intro w'
                            go_simp
                            with_reducible rfl
                          rotate_left
                          · simp only [Act.put, List.setIfInBounds_toArray, List.set_cons_zero, List.set_cons_succ, i64_w, i32_w]
                            rfl
                          refine pure_ (i := 11) (N := some 47) (v := ?_) (a' := ?_) #[true, true, true, true, false, true, true, true, true, false, true, true, false, false, false, false, false, false] rfl rfl (any_of HT_.out (by kernel_rfl)) (fun _ _ _ h => h) (Or.inl ⟨by rfl, ?_⟩) ?_ ?_
                          rotate_left
                          · intro w'
                            go_simp
                            with_reducible rfl
                          rotate_left
                          · simp only [Act.put, List.setIfInBounds_toArray, List.set_cons_zero, List.set_cons_succ, i64_w, i32_w]
                            rfl
                          refine pure_ (i := 12) (N := some 48) (v := ?_) (a' := ?_) #[true, true, true, true, false, true, true, true, true, false, true, true, true, false, false, false, false, false] rfl rfl (any_of HT_.out (by kernel_rfl)) (fun _ _ _ h => h) (Or.inl ⟨by rfl, ?_⟩) ?_ ?_
                          rotate_left
                          · intro w'
                            go_simp
                            with_reducible rfl
                          rotate_left
                          · simp only [Act.put, List.setIfInBounds_toArray, List.set_cons_zero, List.set_cons_succ, i64_w, i32_w]
                            rfl
                          refine pure_ (i := 13) (N := some 49) (v := ?_) (a' := ?_) #[true, true, true, true, false, true, true, true, true, false, true, true, true, true, false, false, false, false] rfl rfl (any_of HT_.out (by kernel_rfl)) (fun _ _ _ h => h) (Or.inl ⟨by rfl, ?_⟩) ?_ ?_
                          rotate_left
                          · intro w'
                            go_simp
                            with_reducible rfl
                          rotate_left
                          · simp only [Act.put, List.setIfInBounds_toArray, List.set_cons_zero, List.set_cons_succ, i64_w, i32_w]
                            rfl
                          refine take_ (i := 4) (N := some 40) (v := ?_) (a' := ?_) #[true, true, true, true, true, true, true, true, true, false, true, true, true, true, false, false, false, false] rfl rfl (take_ofW HT_.out HW_.out (by kernel_rfl)) (fun _ _ _ h => h) (Or.inl ⟨by rfl, ?_⟩) hHeld ?_ ?_
                          rotate_left
                          · rintro w' ⟨s0, s1, s2, s3, s4, s5, s6, s7, s8, s9, s10, s11, s12, s13, s14, s15, s16, s17, s18, s19, s20, s21, s22, s23⟩
                            go_simp
                            with_reducible rfl
                          rotate_left
                          · simp only [Act.put, List.setIfInBounds_toArray, List.set_cons_zero, List.set_cons_succ, i64_w, i32_w]
                            rfl
                          refine pure_ (i := 16) (N := some 10) (v := ?_) (a' := ?_) #[true, true, true, true, true, true, true, true, true, false, true, true, true, true, false, false, true, false] rfl rfl (any_of HT_.out (by kernel_rfl)) (fun _ _ _ h => h) (Or.inl ⟨by rfl, ?_⟩) ?_ ?_
                          rotate_left
                          · intro w'
                            go_simp
                            with_reducible rfl
                          rotate_left
                          · simp only [Act.put, List.setIfInBounds_toArray, List.set_cons_zero, List.set_cons_succ, i64_w, i32_w]
                            rfl
                          refine take_ (i := 9) (N := some 45) (v := ?_) (a' := ?_) #[true, true, true, true, true, true, true, true, true, true, true, true, true, true, false, false, true, false] rfl rfl (take_ofW HT_.out HW_.out (by kernel_rfl)) (fun _ _ _ h => h) (Or.inl ⟨by rfl, ?_⟩) hHeld ?_ ?_
                          rotate_left
                          · rintro w' ⟨s0, s1, s2, s3, s4, s5, s6, s7, s8, s9, s10, s11, s12, s13, s14, s15, s16, s17, s18, s19, s20, s21, s22, s23⟩
                            go_simp
                            with_reducible rfl
                          rotate_left
                          · simp only [Act.put, List.setIfInBounds_toArray, List.set_cons_zero, List.set_cons_succ, i64_w, i32_w]
                            rfl
                          refine take_ (i := 14) (N := some 50) (v := ?_) (a' := ?_) #[true, true, true, true, true, true, true, true, true, true, true, true, true, true, true, false, true, false] rfl rfl (take_ofW HT_.out HW_.out (by kernel_rfl)) (fun _ _ _ h => h) (Or.inl ⟨by rfl, ?_⟩) hHeld ?_ ?_
                          rotate_left
                          · rintro w' ⟨s0, s1, s2, s3, s4, s5, s6, s7, s8, s9, s10, s11, s12, s13, s14, s15, s16, s17, s18, s19, s20, s21, s22, s23⟩
                            go_simp
                            with_reducible rfl
                          rotate_left
                          · simp only [Act.put, List.setIfInBounds_toArray, List.set_cons_zero, List.set_cons_succ, i64_w, i32_w]
                            rfl
                          refine pure_ (i := 15) (N := some 51) (v := ?_) (a' := ?_) #[true, true, true, true, true, true, true, true, true, true, true, true, true, true, true, true, true, false] rfl rfl (any_of HT_.out (by kernel_rfl)) (fun _ _ _ h => h) (Or.inl ⟨by rfl, ?_⟩) ?_ ?_
                          rotate_left
                          · intro w'
                            go_simp
                            with_reducible rfl
                          rotate_left
                          · simp only [Act.put, List.setIfInBounds_toArray, List.set_cons_zero, List.set_cons_succ, i64_w, i32_w]
                            rfl
                          refine pure_ (i := 17) (N := some 11) (v := ?_) (a' := ?_) #[true, true, true, true, true, true, true, true, true, true, true, true, true, true, true, true, true, true] rfl rfl (any_of HT_.out (by kernel_rfl)) (fun _ _ _ h => h) (Or.inl ⟨by rfl, ?_⟩) ?_ ?_
                          rotate_left
                          · intro w'
                            go_simp
                            with_reducible rfl
                          rotate_left
                          · simp only [Act.put, List.setIfInBounds_toArray, List.set_cons_zero, List.set_cons_succ, i64_w, i32_w]
                            rfl
                          refine done_ (done_of HT_.out (by kernel_rfl)) ?_
                          have p136 : 0 ≤ (x7_1 : Int) := of_decide_eq_true (by first | (with_reducible assumption) | assumption)
                          have q136 : x7_1 < (l0.length : Int) := of_decide_eq_true (by first | (with_reducible assumption) | assumption)
                          obtain ⟨ad136, e136, hx136_0, hx136_1, hx136_2, hx136_3, hx136_4, hx136_5, hx136_6, hx136_7⟩ := at_T37 HR0.out x7_1 p136 q136
                          obtain rfl : ad133 = ad136 := (by injection e136)
                          replace hx136_0 := (HB.out.cell (World.block_lt_of_cell? w _ hx136_0)).trans hx136_0
                          replace hx136_1 := (HB.out.cell (World.block_lt_of_cell? w _ hx136_1)).trans hx136_1
                          replace hx136_2 := (HB.out.cell (World.block_lt_of_cell? w _ hx136_2)).trans hx136_2
                          replace hx136_3 := (HB.out.cell (World.block_lt_of_cell? w _ hx136_3)).trans hx136_3
                          replace hx136_4 := (HB.out.cell (World.block_lt_of_cell? w _ hx136_4)).trans hx136_4
                          replace hx136_5 := (HB.out.cell (World.block_lt_of_cell? w _ hx136_5)).trans hx136_5
                          replace hx136_6 := (HB.out.cell (World.block_lt_of_cell? w _ hx136_6)).trans hx136_6
                          replace hx136_7 := (HB.out.cell (World.block_lt_of_cell? w _ hx136_7)).trans hx136_7
                          replace p136 := eq_true p136
                          replace q136 := eq_true q136
                          go_upto_if 58 with (fail)
                          go_cut [10] (fun v10 wc => ∃ (kq : Nat) (x10_16 : Int), v10 = .int .i64 x10_16 ∧ Aside0 (merkhetref27_Own.j2 kq l0 l1 x6_1 x7_1 x8_2 x9_2 x10_16 (wrap64 (((rd_T37 l0 x9_2).f6) + ((rd_T37 l0 x9_2).f7))) = some (r1, r2)) ∧ Aside0 (kq ≤ k2) ∧ Aside0 (Kd.R (Kd.int .i64) 2 wc w.heap.size (fun _ => True) u6 x6_1) ∧ Aside0 (Kd.R k26 26 wc w.heap.size (fun _ => True) u8 x8_2) ∧ Aside0 (Below w.heap.size w wc))
                          case first =>
                            have H := HC17.out
                            clear HC17
                            by_cases c19 : ((rd_T37 l0 x9_2).f6) < ((rd_T37 l0 x7_1).f6)
                            · rw [if_pos c19] at H
                              have c19b0 : decide (((rd_T37 l0 x9_2).f6) < ((rd_T37 l0 x7_1).f6)) = true := decide_eq_true c19
                              clear c19
                              (first | rw [c19b0] | (simp only [i64_w, i32_w]; rw [c19b0]) | skip)
                              have H' := Aside0.mk H
                              clear H
                              have p137 : 0 ≤ (x7_1 : Int) := of_decide_eq_true (by first | (with_reducible assumption) | assumption)
                              have q137 : x7_1 < (l0.length : Int) := of_decide_eq_true (by first | (with_reducible assumption) | assumption)
                              obtain ⟨ad137, e137, hx137_0, hx137_1, hx137_2, hx137_3, hx137_4, hx137_5, hx137_6, hx137_7⟩ := at_T37 HR0.out x7_1 p137 q137
                              obtain rfl : ad133 = ad137 := (by injection e137)
                              replace hx137_0 := (HB.out.cell (World.block_lt_of_cell? w _ hx137_0)).trans hx137_0
                              replace hx137_1 := (HB.out.cell (World.block_lt_of_cell? w _ hx137_1)).trans hx137_1
                              replace hx137_2 := (HB.out.cell (World.block_lt_of_cell? w _ hx137_2)).trans hx137_2
                              replace hx137_3 := (HB.out.cell (World.block_lt_of_cell? w _ hx137_3)).trans hx137_3
                              replace hx137_4 := (HB.out.cell (World.block_lt_of_cell? w _ hx137_4)).trans hx137_4
                              replace hx137_5 := (HB.out.cell (World.block_lt_of_cell? w _ hx137_5)).trans hx137_5
                              replace hx137_6 := (HB.out.cell (World.block_lt_of_cell? w _ hx137_6)).trans hx137_6
                              replace hx137_7 := (HB.out.cell (World.block_lt_of_cell? w _ hx137_7)).trans hx137_7
                              replace p137 := eq_true p137
                              replace q137 := eq_true q137
                              go_wp2
                              go_meet
                              case rel => exact ⟨_, ((rd_T37 l0 x7_1).f6), (by first | rfl | (simp; done) | (simp [*]; done)), H', ⟨by have := HK1.out; have := HK2.out; first | omega | exact Nat.le_refl _⟩, ⟨by (with_reducible repeat (first | apply Kd.R_alloc | apply Kd.R_drewN | apply Kd.R_drew)); exact HO_6.out⟩, ⟨by (with_reducible repeat (first | apply Kd.R_alloc | apply Kd.R_drewN | apply Kd.R_drew)); exact HO_8.out⟩, ⟨by repeat (first | (with_reducible first | exact HB.out | apply below_alloc | apply pw_below_drewN | apply below_drew1) | exact HB.out)⟩⟩
                            · rw [if_neg c19] at H
                              have c19b0 : decide (((rd_T37 l0 x9_2).f6) < ((rd_T37 l0 x7_1).f6)) = false := decide_eq_false c19
                              clear c19
                              (first | rw [c19b0] | (simp only [i64_w, i32_w]; rw [c19b0]) | skip)
                              have H' := Aside0.mk H
                              clear H
                              go_wp2
                              go_meet
                              case rel => exact ⟨_, ((rd_T37 l0 x9_2).f6), (by first | rfl | (simp; done) | (simp [*]; done)), H', ⟨by have := HK1.out; have := HK2.out; first | omega | exact Nat.le_refl _⟩, ⟨by (with_reducible repeat (first | apply Kd.R_alloc | apply Kd.R_drewN | apply Kd.R_drew)); exact HO_6.out⟩, ⟨by (with_reducible repeat (first | apply Kd.R_alloc | apply Kd.R_drewN | apply Kd.R_drew)); exact HO_8.out⟩, ⟨by repeat (first | (with_reducible first | exact HB.out | apply below_alloc | apply pw_below_drewN | apply below_drew1) | exact HB.out)⟩⟩
                          case rest =>
                            clear HC17
                            (try clear c1); (try clear p1); (try clear q1); (try clear hx1); (try clear p2); (try clear c4); (try clear p6); (try clear c8); (try clear c8b0); (try clear c11); (try clear c11b0); (try clear c12); (try clear c12b0); (try clear c13); (try clear c13b0); (try clear p13); (try clear q13); (try clear hx13); (try clear c14); (try clear c14b0); (try clear c14b1); (try clear c15); (try clear c15b0); (try clear c16); (try clear c16b0); (try clear c17); (try clear c19); (try clear c19b0); (try clear hx132_0); (try clear hx133_0); (try clear hx133_1); (try clear hx133_2); (try clear hx133_3); (try clear hx133_4); (try clear hx133_5); (try clear hx133_6); (try clear hx133_7); (try clear hx134_0); (try clear hx134_1); (try clear hx134_2); (try clear hx134_3); (try clear hx134_4); (try clear hx134_5); (try clear hx134_6); (try clear hx134_7); (try clear hx135_0); (try clear hx135_1); (try clear hx135_2); (try clear hx135_3); (try clear hx135_4); (try clear hx135_5); (try clear hx135_6); (try clear hx135_7); (try clear hx136_0); (try clear hx136_1); (try clear hx136_2); (try clear hx136_3); (try clear hx136_4); (try clear hx136_5); (try clear hx136_6); (try clear hx136_7); (try clear hx137_0); (try clear hx137_1); (try clear hx137_2); (try clear hx137_3); (try clear hx137_4); (try clear hx137_5); (try clear hx137_6); (try clear hx137_7); (try clear p132); (try clear p133); (try clear p134); (try clear p135); (try clear p136); (try clear p137); (try clear p2); (try clear q132); (try clear q133); (try clear q134); (try clear q135); (try clear q136); (try clear q137)
                            obtain ⟨kq, x10_16, rfl, HA, HJ16, HO_6, HO_8, HB⟩ := hcut
                            cases kq with
                            | zero => exact absurd HA.out (by simp [merkhetref27_Own.j2])
                            | succ kj16 =>
                              have H := HA.out
                              clear HA
                              simp only [merkhetref27_Own.j2] at H
                              by_cases c20 : 0 ≤ x7_1
                              · rw [if_pos c20] at H
                                have c20b0 : decide (0 ≤ x7_1) = true := decide_eq_true c20
                                clear c20
                                by_cases c21 : x7_1 < (l0.length : Int)
                                · rw [if_pos c21] at H
                                  have c21b0 : decide (x7_1 < (l0.length : Int)) = true := decide_eq_true c21
                                  clear c21
                                  by_cases c22 : (wrap64 (((rd_T37 l0 x9_2).f6) + ((rd_T37 l0 x9_2).f7))) > (wrap64 (((rd_T37 l0 x7_1).f6) + ((rd_T37 l0 x7_1).f7)))
                                  · rw [if_pos c22] at H
                                    have c22b0 : decide ((wrap64 (((rd_T37 l0 x7_1).f6) + ((rd_T37 l0 x7_1).f7))) < (wrap64 (((rd_T37 l0 x9_2).f6) + ((rd_T37 l0 x9_2).f7)))) = true := decide_eq_true c22
                                    clear c22
                                    by_cases c23 : x8_2.length < 8796093022208
                                    · rw [if_pos c23] at H
                                      have LMc23 := Aside0.mk c23
                                      clear c23
                                      obtain ⟨y142, hy142⟩ : ∃ y_ : List (S26), y_ = (x8_2 ++ [(⟨x10_16, wrap64 (((rd_T37 l0 x7_1).f6) + ((rd_T37 l0 x7_1).f7))⟩ : S26)]) := ⟨_, rfl⟩
                                      replace H : (merkhetref27_Own.l1 kj16 l0 l1 x6_1 x7_1 y142 (wrap64 (x9_2 + 1))) = some (r1, r2) := by first | (rw [hy142]; with_reducible exact H) | (have H2_ := (Option.bind_some _ _).symm.trans H; rw [hy142]; with_reducible exact H2_) | (have H2_ := (Option.bind_some _ _).symm.trans H; with_reducible exact H2_) | with_reducible exact H | (rw [hy142]; exact H) | exact H
                                      have Ny142 := Aside0.mk hy142
                                      clear hy142
                                      have H' := Aside0.mk H
                                      clear H
                                      try go_wp2
                                      have n0_ := Aside0.mk (Kd.R_drew HO_6.out)
                                      have n1_ := Aside0.mk (Kd.R_drew HO_8.out)
                                      have n2_ := Aside0.mk (below_drew1 HB.out)
                                      clear HO_6
                                      clear HO_8
                                      clear HB
                                      have HO_6 := n0_
                                      have HO_8 := n1_
                                      have HB := n2_
                                      clear n0_ n1_ n2_
                                      have p138 : 0 ≤ (x7_1 : Int) := of_decide_eq_true (by first | (with_reducible assumption) | assumption)
                                      have q138 : x7_1 < (l0.length : Int) := of_decide_eq_true (by first | (with_reducible assumption) | assumption)
                                      obtain ⟨ad138, e138, hx138_0, hx138_1, hx138_2, hx138_3, hx138_4, hx138_5, hx138_6, hx138_7⟩ := at_T37 HR0.out x7_1 p138 q138
                                      have hw138_7 := hx138_7
                                      have hw138_6 := hx138_6
                                      have hw138_5 := hx138_5
                                      have hw138_4 := hx138_4
                                      have hw138_3 := hx138_3
                                      have hw138_2 := hx138_2
                                      have hw138_1 := hx138_1
                                      have hw138_0 := hx138_0
                                      obtain rfl : ad133 = ad138 := (by injection e138)
                                      replace hx138_0 := (HB.out.cell (World.block_lt_of_cell? w _ hx138_0)).trans hx138_0
                                      replace hx138_1 := (HB.out.cell (World.block_lt_of_cell? w _ hx138_1)).trans hx138_1
                                      replace hx138_2 := (HB.out.cell (World.block_lt_of_cell? w _ hx138_2)).trans hx138_2
                                      replace hx138_3 := (HB.out.cell (World.block_lt_of_cell? w _ hx138_3)).trans hx138_3
                                      replace hx138_4 := (HB.out.cell (World.block_lt_of_cell? w _ hx138_4)).trans hx138_4
                                      replace hx138_5 := (HB.out.cell (World.block_lt_of_cell? w _ hx138_5)).trans hx138_5
                                      replace hx138_6 := (HB.out.cell (World.block_lt_of_cell? w _ hx138_6)).trans hx138_6
                                      replace hx138_7 := (HB.out.cell (World.block_lt_of_cell? w _ hx138_7)).trans hx138_7
                                      replace p138 := eq_true p138
                                      replace q138 := eq_true q138
                                      have p139 : 0 ≤ (x7_1 : Int) := of_decide_eq_true (by first | (with_reducible assumption) | assumption)
                                      have q139 : x7_1 < (l0.length : Int) := of_decide_eq_true (by first | (with_reducible assumption) | assumption)
                                      obtain ⟨ad139, e139, hx139_0, hx139_1, hx139_2, hx139_3, hx139_4, hx139_5, hx139_6, hx139_7⟩ := at_T37 HR0.out x7_1 p139 q139
                                      have hw139_7 := hx139_7
                                      have hw139_6 := hx139_6
                                      have hw139_5 := hx139_5
                                      have hw139_4 := hx139_4
                                      have hw139_3 := hx139_3
                                      have hw139_2 := hx139_2
                                      have hw139_1 := hx139_1
                                      have hw139_0 := hx139_0
                                      obtain rfl : ad133 = ad139 := (by injection e139)
                                      replace hx139_0 := (HB.out.cell (World.block_lt_of_cell? w _ hx139_0)).trans hx139_0
                                      replace hx139_1 := (HB.out.cell (World.block_lt_of_cell? w _ hx139_1)).trans hx139_1
                                      replace hx139_2 := (HB.out.cell (World.block_lt_of_cell? w _ hx139_2)).trans hx139_2
                                      replace hx139_3 := (HB.out.cell (World.block_lt_of_cell? w _ hx139_3)).trans hx139_3
                                      replace hx139_4 := (HB.out.cell (World.block_lt_of_cell? w _ hx139_4)).trans hx139_4
                                      replace hx139_5 := (HB.out.cell (World.block_lt_of_cell? w _ hx139_5)).trans hx139_5
                                      replace hx139_6 := (HB.out.cell (World.block_lt_of_cell? w _ hx139_6)).trans hx139_6
                                      replace hx139_7 := (HB.out.cell (World.block_lt_of_cell? w _ hx139_7)).trans hx139_7
                                      replace p139 := eq_true p139
                                      replace q139 := eq_true q139
                                      refine start_ (n := 13) (S := fun w' => w'.cell? (ad133.add ((x7_1).toNat * 8)) = some (.int .u64 ((rd_T37 l0 x7_1).f0)) ∧ w'.cell? ⟨(ad133.add ((x7_1).toNat * 8)).block, (ad133.add ((x7_1).toNat * 8)).off + 1, none⟩ = some (.int .u64 ((rd_T37 l0 x7_1).f1)) ∧ w'.cell? ⟨(ad133.add ((x7_1).toNat * 8)).block, (ad133.add ((x7_1).toNat * 8)).off + 2, none⟩ = some (.int .u64 ((rd_T37 l0 x7_1).f2)) ∧ w'.cell? ⟨(ad133.add ((x7_1).toNat * 8)).block, (ad133.add ((x7_1).toNat * 8)).off + 3, none⟩ = some (.int .u8 ((rd_T37 l0 x7_1).f3)) ∧ w'.cell? ⟨(ad133.add ((x7_1).toNat * 8)).block, (ad133.add ((x7_1).toNat * 8)).off + 4, none⟩ = some (.string ((rd_T37 l0 x7_1).f4)) ∧ w'.cell? ⟨(ad133.add ((x7_1).toNat * 8)).block, (ad133.add ((x7_1).toNat * 8)).off + 5, none⟩ = some (.string ((rd_T37 l0 x7_1).f5)) ∧ w'.cell? ⟨(ad133.add ((x7_1).toNat * 8)).block, (ad133.add ((x7_1).toNat * 8)).off + 6, none⟩ = some (.int .i64 ((rd_T37 l0 x7_1).f6)) ∧ w'.cell? ⟨(ad133.add ((x7_1).toNat * 8)).block, (ad133.add ((x7_1).toNat * 8)).off + 7, none⟩ = some (.int .i64 ((rd_T37 l0 x7_1).f7)) ∧ w'.cell? (ad133.add ((x7_1).toNat * 8)) = some (.int .u64 ((rd_T37 l0 x7_1).f0)) ∧ w'.cell? ⟨(ad133.add ((x7_1).toNat * 8)).block, (ad133.add ((x7_1).toNat * 8)).off + 1, none⟩ = some (.int .u64 ((rd_T37 l0 x7_1).f1)) ∧ w'.cell? ⟨(ad133.add ((x7_1).toNat * 8)).block, (ad133.add ((x7_1).toNat * 8)).off + 2, none⟩ = some (.int .u64 ((rd_T37 l0 x7_1).f2)) ∧ w'.cell? ⟨(ad133.add ((x7_1).toNat * 8)).block, (ad133.add ((x7_1).toNat * 8)).off + 3, none⟩ = some (.int .u8 ((rd_T37 l0 x7_1).f3)) ∧ w'.cell? ⟨(ad133.add ((x7_1).toNat * 8)).block, (ad133.add ((x7_1).toNat * 8)).off + 4, none⟩ = some (.string ((rd_T37 l0 x7_1).f4)) ∧ w'.cell? ⟨(ad133.add ((x7_1).toNat * 8)).block, (ad133.add ((x7_1).toNat * 8)).off + 5, none⟩ = some (.string ((rd_T37 l0 x7_1).f5)) ∧ w'.cell? ⟨(ad133.add ((x7_1).toNat * 8)).block, (ad133.add ((x7_1).toNat * 8)).off + 6, none⟩ = some (.int .i64 ((rd_T37 l0 x7_1).f6)) ∧ w'.cell? ⟨(ad133.add ((x7_1).toNat * 8)).block, (ad133.add ((x7_1).toNat * 8)).off + 7, none⟩ = some (.int .i64 ((rd_T37 l0 x7_1).f7))) (ds := []) #[false, false, false, false, false, false, false, false, false, false, false, false, false] (by kernel_rfl) rfl rfl ⟨((HB.out.cell (World.block_lt_of_cell? w _ hw138_0)).trans hw138_0), ((HB.out.cell (World.block_lt_of_cell? w _ hw138_1)).trans hw138_1), ((HB.out.cell (World.block_lt_of_cell? w _ hw138_2)).trans hw138_2), ((HB.out.cell (World.block_lt_of_cell? w _ hw138_3)).trans hw138_3), ((HB.out.cell (World.block_lt_of_cell? w _ hw138_4)).trans hw138_4), ((HB.out.cell (World.block_lt_of_cell? w _ hw138_5)).trans hw138_5), ((HB.out.cell (World.block_lt_of_cell? w _ hw138_6)).trans hw138_6), ((HB.out.cell (World.block_lt_of_cell? w _ hw138_7)).trans hw138_7), ((HB.out.cell (World.block_lt_of_cell? w _ hw139_0)).trans hw139_0), ((HB.out.cell (World.block_lt_of_cell? w _ hw139_1)).trans hw139_1), ((HB.out.cell (World.block_lt_of_cell? w _ hw139_2)).trans hw139_2), ((HB.out.cell (World.block_lt_of_cell? w _ hw139_3)).trans hw139_3), ((HB.out.cell (World.block_lt_of_cell? w _ hw139_4)).trans hw139_4), ((HB.out.cell (World.block_lt_of_cell? w _ hw139_5)).trans hw139_5), ((HB.out.cell (World.block_lt_of_cell? w _ hw139_6)).trans hw139_6), ((HB.out.cell (World.block_lt_of_cell? w _ hw139_7)).trans hw139_7)⟩ (fun hHeld => ?_); refine with_tabW merkhetref27_Own.tab15 merkhetref27_Own.bits15 (fun HT_ HW_ => ?_)
                                      generalize wc.drew = w24 at HO_6 HO_8 HB hx138_0 hx138_1 hx138_2 hx138_3 hx138_4 hx138_5 hx138_6 hx138_7 hx139_0 hx139_1 hx139_2 hx139_3 hx139_4 hx139_5 hx139_6 hx139_7 hHeld ⊢
                                      refine pure_ (i := 0) (N := some 64) (v := ?_) (a' := ?_) #[true, false, false, false, false, false, false, false, false, false, false, false, false] rfl rfl (any_of HT_.out (by kernel_rfl)) (fun _ _ _ h => h) (Or.inl ⟨by rfl, ?_⟩) ?_ ?_
                                      rotate_left
                                      · intro w'
                                        go_simp
                                        with_reducible rfl
                                      rotate_left
                                      · simp only [Act.put, List.setIfInBounds_toArray, List.set_cons_zero, List.set_cons_succ, i64_w, i32_w]
                                        rfl
                                      refine pure_ (i := 1) (N := some 65) (v := ?_) (a' := ?_) #[true, true, false, false, false, false, false, false, false, false, false, false, false] rfl rfl (any_of HT_.out (by kernel_rfl)) (fun _ _ _ h => h) (Or.inl ⟨by rfl, ?_⟩) ?_ ?_
                                      rotate_left
                                      · intro w'
                                        go_simp
                                        with_reducible rfl
                                      rotate_left
                                      · simp only [Act.put, List.setIfInBounds_toArray, List.set_cons_zero, List.set_cons_succ, i64_w, i32_w]
                                        rfl
                                      refine pure_ (i := 2) (N := some 66) (v := ?_) (a' := ?_) #[true, true, true, false, false, false, false, false, false, false, false, false, false] rfl rfl (any_of HT_.out (by kernel_rfl)) (fun _ _ _ h => h) (Or.inl ⟨by rfl, ?_⟩) ?_ ?_
                                      rotate_left
                                      · intro w'
                                        go_simp
                                        with_reducible rfl
                                      rotate_left
                                      · simp only [Act.put, List.setIfInBounds_toArray, List.set_cons_zero, List.set_cons_succ, i64_w, i32_w]
                                        rfl
                                      refine pure_ (i := 3) (N := some 67) (v := ?_) (a' := ?_) #[true, true, true, true, false, false, false, false, false, false, false, false, false] rfl rfl (any_of HT_.out (by kernel_rfl)) (fun _ _ _ h => h) (Or.inl ⟨by rfl, ?_⟩) ?_ ?_
                                      rotate_left
                                      · intro w'
                                        go_simp
                                        with_reducible rfl
                                      rotate_left
                                      · simp only [Act.put, List.setIfInBounds_toArray, List.set_cons_zero, List.set_cons_succ, i64_w, i32_w]
                                        rfl
                                      refine pure_ (i := 4) (N := some 68) (v := ?_) (a' := ?_) #[true, true, true, true, true, false, false, false, false, false, false, false, false] rfl rfl (any_of HT_.out (by kernel_rfl)) (fun _ _ _ h => h) (Or.inl ⟨by rfl, ?_⟩) ?_ ?_
                                      rotate_left
                                      · intro w'
                                        go_simp
                                        with_reducible rfl
                                      rotate_left
                                      · simp only [Act.put, List.setIfInBounds_toArray, List.set_cons_zero, List.set_cons_succ, i64_w, i32_w]
                                        rfl
                                      refine pure_ (i := 6) (N := some 70) (v := ?_) (a' := ?_) #[true, true, true, true, true, false, true, false, false, false, false, false, false] rfl rfl (any_of HT_.out (by kernel_rfl)) (fun _ _ _ h => h) (Or.inl ⟨by rfl, ?_⟩) ?_ ?_
                                      rotate_left
                                      · intro w'
                                        go_simp
                                        with_reducible rfl
                                      rotate_left
                                      · simp only [Act.put, List.setIfInBounds_toArray, List.set_cons_zero, List.set_cons_succ, i64_w, i32_w]
                                        rfl
                                      refine pure_ (i := 7) (N := some 71) (v := ?_) (a' := ?_) #[true, true, true, true, true, false, true, true, false, false, false, false, false] rfl rfl (any_of HT_.out (by kernel_rfl)) (fun _ _ _ h => h) (Or.inl ⟨by rfl, ?_⟩) ?_ ?_
                                      rotate_left
                                      · intro w'
                                        go_simp
                                        with_reducible rfl
                                      rotate_left
                                      · simp only [Act.put, List.setIfInBounds_toArray, List.set_cons_zero, List.set_cons_succ, i64_w, i32_w]
                                        rfl
                                      refine pure_ (i := 8) (N := some 72) (v := ?_) (a' := ?_) #[true, true, true, true, true, false, true, true, true, false, false, false, false] rfl rfl (any_of HT_.out (by kernel_rfl)) (fun _ _ _ h => h) (Or.inl ⟨by rfl, ?_⟩) ?_ ?_
                                      rotate_left
                                      · intro w'
                                        go_simp
                                        with_reducible rfl
                                      rotate_left
                                      · simp only [Act.put, List.setIfInBounds_toArray, List.set_cons_zero, List.set_cons_succ, i64_w, i32_w]
                                        rfl
                                      refine pure_ (i := 9) (N := some 73) (v := ?_) (a' := ?_) #[true, true, true, true, true, false, true, true, true, true, false, false, false] rfl rfl (any_of HT_.out (by kernel_rfl)) (fun _ _ _ h => h) (Or.inl ⟨by rfl, ?_⟩) ?_ ?_
                                      rotate_left
                                      · intro w'
                                        go_simp
                                        with_reducible rfl
                                      rotate_left
                                      · simp only [Act.put, List.setIfInBounds_toArray, List.set_cons_zero, List.set_cons_succ, i64_w, i32_w]
                                        rfl
                                      refine take_ (i := 5) (N := some 69) (v := ?_) (a' := ?_) #[true, true, true, true, true, true, true, true, true, true, false, false, false] rfl rfl (take_ofW HT_.out HW_.out (by kernel_rfl)) (fun _ _ _ h => h) (Or.inl ⟨by rfl, ?_⟩) hHeld ?_ ?_
                                      rotate_left
                                      · rintro w' ⟨s0, s1, s2, s3, s4, s5, s6, s7, s8, s9, s10, s11, s12, s13, s14, s15⟩
                                        go_simp
                                        with_reducible rfl
                                      rotate_left
                                      · simp only [Act.put, List.setIfInBounds_toArray, List.set_cons_zero, List.set_cons_succ, i64_w, i32_w]
                                        rfl
                                      refine take_ (i := 10) (N := some 74) (v := ?_) (a' := ?_) #[true, true, true, true, true, true, true, true, true, true, true, false, false] rfl rfl (take_ofW HT_.out HW_.out (by kernel_rfl)) (fun _ _ _ h => h) (Or.inl ⟨by rfl, ?_⟩) hHeld ?_ ?_
                                      rotate_left
                                      · rintro w' ⟨s0, s1, s2, s3, s4, s5, s6, s7, s8, s9, s10, s11, s12, s13, s14, s15⟩
                                        go_simp
                                        with_reducible rfl
                                      rotate_left
                                      · simp only [Act.put, List.setIfInBounds_toArray, List.set_cons_zero, List.set_cons_succ, i64_w, i32_w]
                                        rfl
                                      refine pure_ (i := 11) (N := some 75) (v := ?_) (a' := ?_) #[true, true, true, true, true, true, true, true, true, true, true, true, false] rfl rfl (any_of HT_.out (by kernel_rfl)) (fun _ _ _ h => h) (Or.inl ⟨by rfl, ?_⟩) ?_ ?_
                                      rotate_left
                                      · intro w'
                                        go_simp
                                        with_reducible rfl
                                      rotate_left
                                      · simp only [Act.put, List.setIfInBounds_toArray, List.set_cons_zero, List.set_cons_succ, i64_w, i32_w]
                                        rfl
                                      refine pure_ (i := 12) (N := some 76) (v := ?_) (a' := ?_) #[true, true, true, true, true, true, true, true, true, true, true, true, true] rfl rfl (any_of HT_.out (by kernel_rfl)) (fun _ _ _ h => h) (Or.inl ⟨by rfl, ?_⟩) ?_ ?_
                                      rotate_left
                                      · intro w'
                                        go_simp
                                        with_reducible rfl
                                      rotate_left
                                      · simp only [Act.put, List.setIfInBounds_toArray, List.set_cons_zero, List.set_cons_succ, i64_w, i32_w]
                                        rfl
                                      refine done_ (done_of HT_.out (by kernel_rfl)) ?_
                                      try go_wp2
                                      have n0_ := Aside0.mk (Kd.R_drew HO_6.out)
                                      have n1_ := Aside0.mk (Kd.R_drew HO_8.out)
                                      have n2_ := Aside0.mk (below_drew1 HB.out)
                                      clear HO_6
                                      clear HO_8
                                      clear HB
                                      have HO_6 := n0_
                                      have HO_8 := n1_
                                      have HB := n2_
                                      clear n0_ n1_ n2_
                                      have p140 : 0 ≤ (x7_1 : Int) := of_decide_eq_true (by first | (with_reducible assumption) | assumption)
                                      have q140 : x7_1 < (l0.length : Int) := of_decide_eq_true (by first | (with_reducible assumption) | assumption)
                                      obtain ⟨ad140, e140, hx140_0, hx140_1, hx140_2, hx140_3, hx140_4, hx140_5, hx140_6, hx140_7⟩ := at_T37 HR0.out x7_1 p140 q140
                                      have hw140_7 := hx140_7
                                      have hw140_6 := hx140_6
                                      have hw140_5 := hx140_5
                                      have hw140_4 := hx140_4
                                      have hw140_3 := hx140_3
                                      have hw140_2 := hx140_2
                                      have hw140_1 := hx140_1
                                      have hw140_0 := hx140_0
                                      obtain rfl : ad133 = ad140 := (by injection e140)
                                      replace hx140_0 := (HB.out.cell (World.block_lt_of_cell? w _ hx140_0)).trans hx140_0
                                      replace hx140_1 := (HB.out.cell (World.block_lt_of_cell? w _ hx140_1)).trans hx140_1
                                      replace hx140_2 := (HB.out.cell (World.block_lt_of_cell? w _ hx140_2)).trans hx140_2
                                      replace hx140_3 := (HB.out.cell (World.block_lt_of_cell? w _ hx140_3)).trans hx140_3
                                      replace hx140_4 := (HB.out.cell (World.block_lt_of_cell? w _ hx140_4)).trans hx140_4
                                      replace hx140_5 := (HB.out.cell (World.block_lt_of_cell? w _ hx140_5)).trans hx140_5
                                      replace hx140_6 := (HB.out.cell (World.block_lt_of_cell? w _ hx140_6)).trans hx140_6
                                      replace hx140_7 := (HB.out.cell (World.block_lt_of_cell? w _ hx140_7)).trans hx140_7
                                      replace p140 := eq_true p140
                                      replace q140 := eq_true q140
                                      have p141 : 0 ≤ (x7_1 : Int) := of_decide_eq_true (by first | (with_reducible assumption) | assumption)
                                      have q141 : x7_1 < (l0.length : Int) := of_decide_eq_true (by first | (with_reducible assumption) | assumption)
                                      obtain ⟨ad141, e141, hx141_0, hx141_1, hx141_2, hx141_3, hx141_4, hx141_5, hx141_6, hx141_7⟩ := at_T37 HR0.out x7_1 p141 q141
                                      have hw141_7 := hx141_7
                                      have hw141_6 := hx141_6
                                      have hw141_5 := hx141_5
                                      have hw141_4 := hx141_4
                                      have hw141_3 := hx141_3
                                      have hw141_2 := hx141_2
                                      have hw141_1 := hx141_1
                                      have hw141_0 := hx141_0
                                      obtain rfl : ad133 = ad141 := (by injection e141)
                                      replace hx141_0 := (HB.out.cell (World.block_lt_of_cell? w _ hx141_0)).trans hx141_0
                                      replace hx141_1 := (HB.out.cell (World.block_lt_of_cell? w _ hx141_1)).trans hx141_1
                                      replace hx141_2 := (HB.out.cell (World.block_lt_of_cell? w _ hx141_2)).trans hx141_2
                                      replace hx141_3 := (HB.out.cell (World.block_lt_of_cell? w _ hx141_3)).trans hx141_3
                                      replace hx141_4 := (HB.out.cell (World.block_lt_of_cell? w _ hx141_4)).trans hx141_4
                                      replace hx141_5 := (HB.out.cell (World.block_lt_of_cell? w _ hx141_5)).trans hx141_5
                                      replace hx141_6 := (HB.out.cell (World.block_lt_of_cell? w _ hx141_6)).trans hx141_6
                                      replace hx141_7 := (HB.out.cell (World.block_lt_of_cell? w _ hx141_7)).trans hx141_7
                                      replace p141 := eq_true p141
                                      replace q141 := eq_true q141
                                      refine start_ (n := 12) (S := fun w' => w'.cell? (ad133.add ((x7_1).toNat * 8)) = some (.int .u64 ((rd_T37 l0 x7_1).f0)) ∧ w'.cell? ⟨(ad133.add ((x7_1).toNat * 8)).block, (ad133.add ((x7_1).toNat * 8)).off + 1, none⟩ = some (.int .u64 ((rd_T37 l0 x7_1).f1)) ∧ w'.cell? ⟨(ad133.add ((x7_1).toNat * 8)).block, (ad133.add ((x7_1).toNat * 8)).off + 2, none⟩ = some (.int .u64 ((rd_T37 l0 x7_1).f2)) ∧ w'.cell? ⟨(ad133.add ((x7_1).toNat * 8)).block, (ad133.add ((x7_1).toNat * 8)).off + 3, none⟩ = some (.int .u8 ((rd_T37 l0 x7_1).f3)) ∧ w'.cell? ⟨(ad133.add ((x7_1).toNat * 8)).block, (ad133.add ((x7_1).toNat * 8)).off + 4, none⟩ = some (.string ((rd_T37 l0 x7_1).f4)) ∧ w'.cell? ⟨(ad133.add ((x7_1).toNat * 8)).block, (ad133.add ((x7_1).toNat * 8)).off + 5, none⟩ = some (.string ((rd_T37 l0 x7_1).f5)) ∧ w'.cell? ⟨(ad133.add ((x7_1).toNat * 8)).block, (ad133.add ((x7_1).toNat * 8)).off + 6, none⟩ = some (.int .i64 ((rd_T37 l0 x7_1).f6)) ∧ w'.cell? ⟨(ad133.add ((x7_1).toNat * 8)).block, (ad133.add ((x7_1).toNat * 8)).off + 7, none⟩ = some (.int .i64 ((rd_T37 l0 x7_1).f7)) ∧ w'.cell? (ad133.add ((x7_1).toNat * 8)) = some (.int .u64 ((rd_T37 l0 x7_1).f0)) ∧ w'.cell? ⟨(ad133.add ((x7_1).toNat * 8)).block, (ad133.add ((x7_1).toNat * 8)).off + 1, none⟩ = some (.int .u64 ((rd_T37 l0 x7_1).f1)) ∧ w'.cell? ⟨(ad133.add ((x7_1).toNat * 8)).block, (ad133.add ((x7_1).toNat * 8)).off + 2, none⟩ = some (.int .u64 ((rd_T37 l0 x7_1).f2)) ∧ w'.cell? ⟨(ad133.add ((x7_1).toNat * 8)).block, (ad133.add ((x7_1).toNat * 8)).off + 3, none⟩ = some (.int .u8 ((rd_T37 l0 x7_1).f3)) ∧ w'.cell? ⟨(ad133.add ((x7_1).toNat * 8)).block, (ad133.add ((x7_1).toNat * 8)).off + 4, none⟩ = some (.string ((rd_T37 l0 x7_1).f4)) ∧ w'.cell? ⟨(ad133.add ((x7_1).toNat * 8)).block, (ad133.add ((x7_1).toNat * 8)).off + 5, none⟩ = some (.string ((rd_T37 l0 x7_1).f5)) ∧ w'.cell? ⟨(ad133.add ((x7_1).toNat * 8)).block, (ad133.add ((x7_1).toNat * 8)).off + 6, none⟩ = some (.int .i64 ((rd_T37 l0 x7_1).f6)) ∧ w'.cell? ⟨(ad133.add ((x7_1).toNat * 8)).block, (ad133.add ((x7_1).toNat * 8)).off + 7, none⟩ = some (.int .i64 ((rd_T37 l0 x7_1).f7))) (ds := []) #[false, false, false, false, false, false, false, false, false, false, false, false] (by kernel_rfl) rfl rfl ⟨((HB.out.cell (World.block_lt_of_cell? w _ hw140_0)).trans hw140_0), ((HB.out.cell (World.block_lt_of_cell? w _ hw140_1)).trans hw140_1), ((HB.out.cell (World.block_lt_of_cell? w _ hw140_2)).trans hw140_2), ((HB.out.cell (World.block_lt_of_cell? w _ hw140_3)).trans hw140_3), ((HB.out.cell (World.block_lt_of_cell? w _ hw140_4)).trans hw140_4), ((HB.out.cell (World.block_lt_of_cell? w _ hw140_5)).trans hw140_5), ((HB.out.cell (World.block_lt_of_cell? w _ hw140_6)).trans hw140_6), ((HB.out.cell (World.block_lt_of_cell? w _ hw140_7)).trans hw140_7), ((HB.out.cell (World.block_lt_of_cell? w _ hw141_0)).trans hw141_0), ((HB.out.cell (World.block_lt_of_cell? w _ hw141_1)).trans hw141_1), ((HB.out.cell (World.block_lt_of_cell? w _ hw141_2)).trans hw141_2), ((HB.out.cell (World.block_lt_of_cell? w _ hw141_3)).trans hw141_3), ((HB.out.cell (World.block_lt_of_cell? w _ hw141_4)).trans hw141_4), ((HB.out.cell (World.block_lt_of_cell? w _ hw141_5)).trans hw141_5), ((HB.out.cell (World.block_lt_of_cell? w _ hw141_6)).trans hw141_6), ((HB.out.cell (World.block_lt_of_cell? w _ hw141_7)).trans hw141_7)⟩ (fun hHeld => ?_); refine with_tabW merkhetref27_Own.tab16 merkhetref27_Own.bits16 (fun HT_ HW_ => ?_)
                                      generalize w24.drew = w25 at HO_6 HO_8 HB hx140_0 hx140_1 hx140_2 hx140_3 hx140_4 hx140_5 hx140_6 hx140_7 hx141_0 hx141_1 hx141_2 hx141_3 hx141_4 hx141_5 hx141_6 hx141_7 hHeld ⊢
                                      refine pure_ (i := 0) (N := some 77) (v := ?_) (a' := ?_) #[true, false, false, false, false, false, false, false, false, false, false, false] rfl rfl (any_of HT_.out (by kernel_rfl)) (fun _ _ _ h => h) (Or.inl ⟨by rfl, ?_⟩) ?_ ?_
                                      rotate_left
                                      · intro w'
                                        go_simp
                                        with_reducible rfl
                                      rotate_left
                                      · simp only [Act.put, List.setIfInBounds_toArray, List.set_cons_zero, List.set_cons_succ, i64_w, i32_w]
                                        rfl
                                      refine pure_ (i := 1) (N := some 78) (v := ?_) (a' := ?_) #[true, true, false, false, false, false, false, false, false, false, false, false] rfl rfl (any_of HT_.out (by kernel_rfl)) (fun _ _ _ h => h) (Or.inl ⟨by rfl, ?_⟩) ?_ ?_
                                      rotate_left
                                      · intro w'
                                        go_simp
                                        with_reducible rfl
                                      rotate_left
                                      · simp only [Act.put, List.setIfInBounds_toArray, List.set_cons_zero, List.set_cons_succ, i64_w, i32_w]
                                        rfl
                                      refine pure_ (i := 2) (N := some 79) (v := ?_) (a' := ?_) #[true, true, true, false, false, false, false, false, false, false, false, false] rfl rfl (any_of HT_.out (by kernel_rfl)) (fun _ _ _ h => h) (Or.inl ⟨by rfl, ?_⟩) ?_ ?_
                                      rotate_left
                                      · intro w'
                                        go_simp
                                        with_reducible rfl
                                      rotate_left
                                      · simp only [Act.put, List.setIfInBounds_toArray, List.set_cons_zero, List.set_cons_succ, i64_w, i32_w]
                                        rfl
                                      refine pure_ (i := 3) (N := some 80) (v := ?_) (a' := ?_) #[true, true, true, true, false, false, false, false, false, false, false, false] rfl rfl (any_of HT_.out (by kernel_rfl)) (fun _ _ _ h => h) (Or.inl ⟨by rfl, ?_⟩) ?_ ?_
                                      rotate_left
                                      · intro w'
                                        go_simp
                                        with_reducible rfl
                                      rotate_left
                                      · simp only [Act.put, List.setIfInBounds_toArray, List.set_cons_zero, List.set_cons_succ, i64_w, i32_w]
                                        rfl
                                      refine pure_ (i := 5) (N := some 82) (v := ?_) (a' := ?_) #[true, true, true, true, false, true, false, false, false, false, false, false] rfl rfl (any_of HT_.out (by kernel_rfl)) (fun _ _ _ h => h) (Or.inl ⟨by rfl, ?_⟩) ?_ ?_
                                      rotate_left
                                      · intro w'
                                        go_simp
                                        with_reducible rfl
                                      rotate_left
                                      · simp only [Act.put, List.setIfInBounds_toArray, List.set_cons_zero, List.set_cons_succ, i64_w, i32_w]
                                        rfl
                                      refine pure_ (i := 6) (N := some 83) (v := ?_) (a' := ?_) #[true, true, true, true, false, true, true, false, false, false, false, false] rfl rfl (any_of HT_.out (by kernel_rfl)) (fun _ _ _ h => h) (Or.inl ⟨by rfl, ?_⟩) ?_ ?_
                                      rotate_left
                                      · intro w'
                                        go_simp
                                        with_reducible rfl
                                      rotate_left
                                      · simp only [Act.put, List.setIfInBounds_toArray, List.set_cons_zero, List.set_cons_succ, i64_w, i32_w]
                                        rfl
                                      refine pure_ (i := 7) (N := some 84) (v := ?_) (a' := ?_) #[true, true, true, true, false, true, true, true, false, false, false, false] rfl rfl (any_of HT_.out (by kernel_rfl)) (fun _ _ _ h => h) (Or.inl ⟨by rfl, ?_⟩) ?_ ?_
                                      rotate_left
                                      · intro w'
                                        go_simp
                                        with_reducible rfl
                                      rotate_left
                                      · simp only [Act.put, List.setIfInBounds_toArray, List.set_cons_zero, List.set_cons_succ, i64_w, i32_w]
                                        rfl
                                      refine pure_ (i := 8) (N := some 85) (v := ?_) (a' := ?_) #[true, true, true, true, false, true, true, true, true, false, false, false] rfl rfl (any_of HT_.out (by kernel_rfl)) (fun _ _ _ h => h) (Or.inl ⟨by rfl, ?_⟩) ?_ ?_
                                      rotate_left
                                      · intro w'
                                        go_simp
                                        with_reducible rfl
                                      rotate_left
                                      · simp only [Act.put, List.setIfInBounds_toArray, List.set_cons_zero, List.set_cons_succ, i64_w, i32_w]
                                        rfl
                                      refine take_ (i := 4) (N := some 81) (v := ?_) (a' := ?_) #[true, true, true, true, true, true, true, true, true, false, false, false] rfl rfl (take_ofW HT_.out HW_.out (by kernel_rfl)) (fun _ _ _ h => h) (Or.inl ⟨by rfl, ?_⟩) hHeld ?_ ?_
                                      rotate_left
                                      · rintro w' ⟨s0, s1, s2, s3, s4, s5, s6, s7, s8, s9, s10, s11, s12, s13, s14, s15⟩
                                        go_simp
                                        with_reducible rfl
                                      rotate_left
                                      · simp only [Act.put, List.setIfInBounds_toArray, List.set_cons_zero, List.set_cons_succ, i64_w, i32_w]
                                        rfl
                                      refine take_ (i := 9) (N := some 86) (v := ?_) (a' := ?_) #[true, true, true, true, true, true, true, true, true, true, false, false] rfl rfl (take_ofW HT_.out HW_.out (by kernel_rfl)) (fun _ _ _ h => h) (Or.inl ⟨by rfl, ?_⟩) hHeld ?_ ?_
                                      rotate_left
                                      · rintro w' ⟨s0, s1, s2, s3, s4, s5, s6, s7, s8, s9, s10, s11, s12, s13, s14, s15⟩
                                        go_simp
                                        with_reducible rfl
                                      rotate_left
                                      · simp only [Act.put, List.setIfInBounds_toArray, List.set_cons_zero, List.set_cons_succ, i64_w, i32_w]
                                        rfl
                                      refine pure_ (i := 10) (N := some 87) (v := ?_) (a' := ?_) #[true, true, true, true, true, true, true, true, true, true, true, false] rfl rfl (any_of HT_.out (by kernel_rfl)) (fun _ _ _ h => h) (Or.inl ⟨by rfl, ?_⟩) ?_ ?_
                                      rotate_left
                                      · intro w'
                                        go_simp
                                        with_reducible rfl
                                      rotate_left
                                      · simp only [Act.put, List.setIfInBounds_toArray, List.set_cons_zero, List.set_cons_succ, i64_w, i32_w]
                                        rfl
                                      refine pure_ (i := 11) (N := some 11) (v := ?_) (a' := ?_) #[true, true, true, true, true, true, true, true, true, true, true, true] rfl rfl (any_of HT_.out (by kernel_rfl)) (fun _ _ _ h => h) (Or.inl ⟨by rfl, ?_⟩) ?_ ?_
                                      rotate_left
                                      · intro w'
                                        go_simp
                                        with_reducible rfl
                                      rotate_left
                                      · simp only [Act.put, List.setIfInBounds_toArray, List.set_cons_zero, List.set_cons_succ, i64_w, i32_w]
                                        rfl
                                      refine done_ (done_of HT_.out (by kernel_rfl)) ?_
                                      try go_wp2_with (first | ((with_reducible refine gate_builtin (b := .append) (xs := #[.tmp 88, .tmp 92]) rfl ?_); at_builtin; refine Kd.R_append k26 (w0 := w) w.heap.size rfl (.tmp 88) (.tmp 92) 22 26 (.agg #[(.int .i64 0), (.int .i64 0)]) 16 rfl Try.underlying22 info26 rfl (by decide) (by omega) u8 x8_2 (⟨x10_16, wrap64 (((rd_T37 l0 x7_1).f6) + ((rd_T37 l0 x7_1).f7))⟩ : S26) [.int .i64 x10_16, .int .i64 (wrap64 (((rd_T37 l0 x7_1).f6) + ((rd_T37 l0 x7_1).f7)))] (fun _ => True) (fun _ => False) rfl rfl ?aP (fun _ hk => hk.elim) ?aF ?aO ?aB ?aS ?aL ?_; (case aP => exact k26_mkM _ _ _ (⟨x10_16, wrap64 (((rd_T37 l0 x7_1).f6) + ((rd_T37 l0 x7_1).f7))⟩ : S26)); (case aB => exact (by repeat (first | (with_reducible first | exact HB.out | apply below_alloc | apply pw_below_drewN | apply below_drew1) | exact HB.out))); (case aF => exact (fun _ _ => trivial)); (case aO => exact (by (with_reducible repeat (first | apply Kd.R_alloc | apply Kd.R_drewN | apply Kd.R_drew)); exact HO_8.out)); (case aS => exact (below_size (by repeat (first | (with_reducible first | exact HB.out | apply below_alloc | apply pw_below_drewN | apply below_drew1) | exact HB.out)))); (case aL => have := LMc23.out; omega); intro v143 w26 ho hb hg hat; rw [← Ny142.out] at ho; have n0_ := Aside0.mk (Kd.R_over' (by (with_reducible repeat (first | apply Kd.R_alloc | apply Kd.R_drewN | apply Kd.R_drew)); exact HO_6.out) (Kd.R_typed (by (with_reducible repeat (first | apply Kd.R_alloc | apply Kd.R_drewN | apply Kd.R_drew)); exact HO_8.out)) (by decide) hg); have n1_ := Aside0.mk (hb); have n2_ := Aside0.mk (ho); clear HO_6; clear HB; clear HO_8; have HO_6 := n0_; have HB := n1_; have HO144 := n2_; clear n0_ n1_ n2_; clear ho hb hg hat))
                                      go_roundg kj16
                                      case measure => have := HK1.out; have := HK2.out; have := HJ16.out; omega
                                      case rel => exact ⟨(y142), (wrap64 (x9_2 + 1)), (by first | rfl | (simp; done) | (simp [*]; done)), H', ⟨by have := HK1.out; have := HK2.out; have := HJ16.out; omega⟩, ⟨by (with_reducible repeat (first | apply Kd.R_alloc | apply Kd.R_drewN | apply Kd.R_drew)); exact HO_6.out⟩, ⟨by (with_reducible repeat (first | apply Kd.R_alloc | apply Kd.R_drewN | apply Kd.R_drew)); exact HO144.out⟩, ⟨by repeat (first | (with_reducible first | exact HB.out | apply below_alloc | apply pw_below_drewN | apply below_drew1) | exact HB.out)⟩⟩
                                    · rw [if_neg c23] at H
                                      exact absurd H (by simp)
                                  · rw [if_neg c22] at H
                                    have c22b0 : decide ((wrap64 (((rd_T37 l0 x7_1).f6) + ((rd_T37 l0 x7_1).f7))) < (wrap64 (((rd_T37 l0 x9_2).f6) + ((rd_T37 l0 x9_2).f7)))) = false := decide_eq_false c22
                                    clear c22
                                    by_cases c27 : x8_2.length < 8796093022208
                                    · rw [if_pos c27] at H
                                      have LMc27 := Aside0.mk c27
                                      clear c27
                                      obtain ⟨y145, hy145⟩ : ∃ y_ : List (S26), y_ = (x8_2 ++ [(⟨x10_16, (wrap64 (((rd_T37 l0 x9_2).f6) + ((rd_T37 l0 x9_2).f7)))⟩ : S26)]) := ⟨_, rfl⟩
                                      replace H : (merkhetref27_Own.l1 kj16 l0 l1 x6_1 x7_1 y145 (wrap64 (x9_2 + 1))) = some (r1, r2) := by first | (rw [hy145]; with_reducible exact H) | (have H2_ := (Option.bind_some _ _).symm.trans H; rw [hy145]; with_reducible exact H2_) | (have H2_ := (Option.bind_some _ _).symm.trans H; with_reducible exact H2_) | with_reducible exact H | (rw [hy145]; exact H) | exact H
                                      have Ny145 := Aside0.mk hy145
                                      clear hy145
                                      have H' := Aside0.mk H
                                      clear H
                                      try go_wp2
                                      have n0_ := Aside0.mk (Kd.R_drew HO_6.out)
                                      have n1_ := Aside0.mk (Kd.R_drew HO_8.out)
                                      have n2_ := Aside0.mk (below_drew1 HB.out)
                                      clear HO_6
                                      clear HO_8
                                      clear HB
                                      have HO_6 := n0_
                                      have HO_8 := n1_
                                      have HB := n2_
                                      clear n0_ n1_ n2_
                                      have p138 : 0 ≤ (x7_1 : Int) := of_decide_eq_true (by first | (with_reducible assumption) | assumption)
                                      have q138 : x7_1 < (l0.length : Int) := of_decide_eq_true (by first | (with_reducible assumption) | assumption)
                                      obtain ⟨ad138, e138, hx138_0, hx138_1, hx138_2, hx138_3, hx138_4, hx138_5, hx138_6, hx138_7⟩ := at_T37 HR0.out x7_1 p138 q138
                                      have hw138_7 := hx138_7
                                      have hw138_6 := hx138_6
                                      have hw138_5 := hx138_5
                                      have hw138_4 := hx138_4
                                      have hw138_3 := hx138_3
                                      have hw138_2 := hx138_2
                                      have hw138_1 := hx138_1
                                      have hw138_0 := hx138_0
                                      obtain rfl : ad133 = ad138 := (by injection e138)
                                      replace hx138_0 := (HB.out.cell (World.block_lt_of_cell? w _ hx138_0)).trans hx138_0
                                      replace hx138_1 := (HB.out.cell (World.block_lt_of_cell? w _ hx138_1)).trans hx138_1
                                      replace hx138_2 := (HB.out.cell (World.block_lt_of_cell? w _ hx138_2)).trans hx138_2
                                      replace hx138_3 := (HB.out.cell (World.block_lt_of_cell? w _ hx138_3)).trans hx138_3
                                      replace hx138_4 := (HB.out.cell (World.block_lt_of_cell? w _ hx138_4)).trans hx138_4
                                      replace hx138_5 := (HB.out.cell (World.block_lt_of_cell? w _ hx138_5)).trans hx138_5
                                      replace hx138_6 := (HB.out.cell (World.block_lt_of_cell? w _ hx138_6)).trans hx138_6
                                      replace hx138_7 := (HB.out.cell (World.block_lt_of_cell? w _ hx138_7)).trans hx138_7
                                      replace p138 := eq_true p138
                                      replace q138 := eq_true q138
                                      have p139 : 0 ≤ (x7_1 : Int) := of_decide_eq_true (by first | (with_reducible assumption) | assumption)
                                      have q139 : x7_1 < (l0.length : Int) := of_decide_eq_true (by first | (with_reducible assumption) | assumption)
                                      obtain ⟨ad139, e139, hx139_0, hx139_1, hx139_2, hx139_3, hx139_4, hx139_5, hx139_6, hx139_7⟩ := at_T37 HR0.out x7_1 p139 q139
                                      have hw139_7 := hx139_7
                                      have hw139_6 := hx139_6
                                      have hw139_5 := hx139_5
                                      have hw139_4 := hx139_4
                                      have hw139_3 := hx139_3
                                      have hw139_2 := hx139_2
                                      have hw139_1 := hx139_1
                                      have hw139_0 := hx139_0
                                      obtain rfl : ad133 = ad139 := (by injection e139)
                                      replace hx139_0 := (HB.out.cell (World.block_lt_of_cell? w _ hx139_0)).trans hx139_0
                                      replace hx139_1 := (HB.out.cell (World.block_lt_of_cell? w _ hx139_1)).trans hx139_1
                                      replace hx139_2 := (HB.out.cell (World.block_lt_of_cell? w _ hx139_2)).trans hx139_2
                                      replace hx139_3 := (HB.out.cell (World.block_lt_of_cell? w _ hx139_3)).trans hx139_3
                                      replace hx139_4 := (HB.out.cell (World.block_lt_of_cell? w _ hx139_4)).trans hx139_4
                                      replace hx139_5 := (HB.out.cell (World.block_lt_of_cell? w _ hx139_5)).trans hx139_5
                                      replace hx139_6 := (HB.out.cell (World.block_lt_of_cell? w _ hx139_6)).trans hx139_6
                                      replace hx139_7 := (HB.out.cell (World.block_lt_of_cell? w _ hx139_7)).trans hx139_7
                                      replace p139 := eq_true p139
                                      replace q139 := eq_true q139
                                      refine start_ (n := 13) (S := fun w' => w'.cell? (ad133.add ((x7_1).toNat * 8)) = some (.int .u64 ((rd_T37 l0 x7_1).f0)) ∧ w'.cell? ⟨(ad133.add ((x7_1).toNat * 8)).block, (ad133.add ((x7_1).toNat * 8)).off + 1, none⟩ = some (.int .u64 ((rd_T37 l0 x7_1).f1)) ∧ w'.cell? ⟨(ad133.add ((x7_1).toNat * 8)).block, (ad133.add ((x7_1).toNat * 8)).off + 2, none⟩ = some (.int .u64 ((rd_T37 l0 x7_1).f2)) ∧ w'.cell? ⟨(ad133.add ((x7_1).toNat * 8)).block, (ad133.add ((x7_1).toNat * 8)).off + 3, none⟩ = some (.int .u8 ((rd_T37 l0 x7_1).f3)) ∧ w'.cell? ⟨(ad133.add ((x7_1).toNat * 8)).block, (ad133.add ((x7_1).toNat * 8)).off + 4, none⟩ = some (.string ((rd_T37 l0 x7_1).f4)) ∧ w'.cell? ⟨(ad133.add ((x7_1).toNat * 8)).block, (ad133.add ((x7_1).toNat * 8)).off + 5, none⟩ = some (.string ((rd_T37 l0 x7_1).f5)) ∧ w'.cell? ⟨(ad133.add ((x7_1).toNat * 8)).block, (ad133.add ((x7_1).toNat * 8)).off + 6, none⟩ = some (.int .i64 ((rd_T37 l0 x7_1).f6)) ∧ w'.cell? ⟨(ad133.add ((x7_1).toNat * 8)).block, (ad133.add ((x7_1).toNat * 8)).off + 7, none⟩ = some (.int .i64 ((rd_T37 l0 x7_1).f7)) ∧ w'.cell? (ad133.add ((x7_1).toNat * 8)) = some (.int .u64 ((rd_T37 l0 x7_1).f0)) ∧ w'.cell? ⟨(ad133.add ((x7_1).toNat * 8)).block, (ad133.add ((x7_1).toNat * 8)).off + 1, none⟩ = some (.int .u64 ((rd_T37 l0 x7_1).f1)) ∧ w'.cell? ⟨(ad133.add ((x7_1).toNat * 8)).block, (ad133.add ((x7_1).toNat * 8)).off + 2, none⟩ = some (.int .u64 ((rd_T37 l0 x7_1).f2)) ∧ w'.cell? ⟨(ad133.add ((x7_1).toNat * 8)).block, (ad133.add ((x7_1).toNat * 8)).off + 3, none⟩ = some (.int .u8 ((rd_T37 l0 x7_1).f3)) ∧ w'.cell? ⟨(ad133.add ((x7_1).toNat * 8)).block, (ad133.add ((x7_1).toNat * 8)).off + 4, none⟩ = some (.string ((rd_T37 l0 x7_1).f4)) ∧ w'.cell? ⟨(ad133.add ((x7_1).toNat * 8)).block, (ad133.add ((x7_1).toNat * 8)).off + 5, none⟩ = some (.string ((rd_T37 l0 x7_1).f5)) ∧ w'.cell? ⟨(ad133.add ((x7_1).toNat * 8)).block, (ad133.add ((x7_1).toNat * 8)).off + 6, none⟩ = some (.int .i64 ((rd_T37 l0 x7_1).f6)) ∧ w'.cell? ⟨(ad133.add ((x7_1).toNat * 8)).block, (ad133.add ((x7_1).toNat * 8)).off + 7, none⟩ = some (.int .i64 ((rd_T37 l0 x7_1).f7))) (ds := []) #[false, false, false, false, false, false, false, false, false, false, false, false, false] (by kernel_rfl) rfl rfl ⟨((HB.out.cell (World.block_lt_of_cell? w _ hw138_0)).trans hw138_0), ((HB.out.cell (World.block_lt_of_cell? w _ hw138_1)).trans hw138_1), ((HB.out.cell (World.block_lt_of_cell? w _ hw138_2)).trans hw138_2), ((HB.out.cell (World.block_lt_of_cell? w _ hw138_3)).trans hw138_3), ((HB.out.cell (World.block_lt_of_cell? w _ hw138_4)).trans hw138_4), ((HB.out.cell (World.block_lt_of_cell? w _ hw138_5)).trans hw138_5), ((HB.out.cell (World.block_lt_of_cell? w _ hw138_6)).trans hw138_6), ((HB.out.cell (World.block_lt_of_cell? w _ hw138_7)).trans hw138_7), ((HB.out.cell (World.block_lt_of_cell? w _ hw139_0)).trans hw139_0), ((HB.out.cell (World.block_lt_of_cell? w _ hw139_1)).trans hw139_1), ((HB.out.cell (World.block_lt_of_cell? w _ hw139_2)).trans hw139_2), ((HB.out.cell (World.block_lt_of_cell? w _ hw139_3)).trans hw139_3), ((HB.out.cell (World.block_lt_of_cell? w _ hw139_4)).trans hw139_4), ((HB.out.cell (World.block_lt_of_cell? w _ hw139_5)).trans hw139_5), ((HB.out.cell (World.block_lt_of_cell? w _ hw139_6)).trans hw139_6), ((HB.out.cell (World.block_lt_of_cell? w _ hw139_7)).trans hw139_7)⟩ (fun hHeld => ?_); refine with_tabW merkhetref27_Own.tab15 merkhetref27_Own.bits15 (fun HT_ HW_ => ?_)
                                      generalize wc.drew = w28 at HO_6 HO_8 HB hx138_0 hx138_1 hx138_2 hx138_3 hx138_4 hx138_5 hx138_6 hx138_7 hx139_0 hx139_1 hx139_2 hx139_3 hx139_4 hx139_5 hx139_6 hx139_7 hHeld ⊢
                                      refine pure_ (i := 0) (N := some 64) (v := ?_) (a' := ?_) #[true, false, false, false, false, false, false, false, false, false, false, false, false] rfl rfl (any_of HT_.out (by kernel_rfl)) (fun _ _ _ h => h) (Or.inl ⟨by rfl, ?_⟩) ?_ ?_
                                      rotate_left
                                      · intro w'
                                        go_simp
                                        with_reducible rfl
                                      rotate_left
                                      · simp only [Act.put, List.setIfInBounds_toArray, List.set_cons_zero, List.set_cons_succ, i64_w, i32_w]
                                        rfl
                                      refine pure_ (i := 1) (N := some 65) (v := ?_) (a' := ?_) #[true, true, false, false, false, false, false, false, false, false, false, false, false] rfl rfl (any_of HT_.out (by kernel_rfl)) (fun _ _ _ h => h) (Or.inl ⟨by rfl, ?_⟩) ?_ ?_
                                      rotate_left
                                      · intro w'
                                        go_simp
                                        with_reducible rfl
                                      rotate_left
                                      · simp only [Act.put, List.setIfInBounds_toArray, List.set_cons_zero, List.set_cons_succ, i64_w, i32_w]
                                        rfl
                                      refine pure_ (i := 2) (N := some 66) (v := ?_) (a' := ?_) #[true, true, true, false, false, false, false, false, false, false, false, false, false] rfl rfl (any_of HT_.out (by kernel_rfl)) (fun _ _ _ h => h) (Or.inl ⟨by rfl, ?_⟩) ?_ ?_
                                      rotate_left
                                      · intro w'
                                        go_simp
                                        with_reducible rfl
                                      rotate_left
                                      · simp only [Act.put, List.setIfInBounds_toArray, List.set_cons_zero, List.set_cons_succ, i64_w, i32_w]
                                        rfl
                                      refine pure_ (i := 3) (N := some 67) (v := ?_) (a' := ?_) #[true, true, true, true, false, false, false, false, false, false, false, false, false] rfl rfl (any_of HT_.out (by kernel_rfl)) (fun _ _ _ h => h) (Or.inl ⟨by rfl, ?_⟩) ?_ ?_
                                      rotate_left
                                      · intro w'
                                        go_simp
                                        with_reducible rfl
                                      rotate_left
                                      · simp only [Act.put, List.setIfInBounds_toArray, List.set_cons_zero, List.set_cons_succ, i64_w, i32_w]
                                        rfl
                                      refine pure_ (i := 4) (N := some 68) (v := ?_) (a' := ?_) #[true, true, true, true, true, false, false, false, false, false, false, false, false] rfl rfl (any_of HT_.out (by kernel_rfl)) (fun _ _ _ h => h) (Or.inl ⟨by rfl, ?_⟩) ?_ ?_
                                      rotate_left
                                      · intro w'
                                        go_simp
                                        with_reducible rfl
                                      rotate_left
                                      · simp only [Act.put, List.setIfInBounds_toArray, List.set_cons_zero, List.set_cons_succ, i64_w, i32_w]
                                        rfl
                                      refine pure_ (i := 6) (N := some 70) (v := ?_) (a' := ?_) #[true, true, true, true, true, false, true, false, false, false, false, false, false] rfl rfl (any_of HT_.out (by kernel_rfl)) (fun _ _ _ h => h) (Or.inl ⟨by rfl, ?_⟩) ?_ ?_
                                      rotate_left
                                      · intro w'
                                        go_simp
                                        with_reducible rfl
                                      rotate_left
                                      · simp only [Act.put, List.setIfInBounds_toArray, List.set_cons_zero, List.set_cons_succ, i64_w, i32_w]
                                        rfl
                                      refine pure_ (i := 7) (N := some 71) (v := ?_) (a' := ?_) #[true, true, true, true, true, false, true, true, false, false, false, false, false] rfl rfl (any_of HT_.out (by kernel_rfl)) (fun _ _ _ h => h) (Or.inl ⟨by rfl, ?_⟩) ?_ ?_
                                      rotate_left
                                      · intro w'
                                        go_simp
                                        with_reducible rfl
                                      rotate_left
                                      · simp only [Act.put, List.setIfInBounds_toArray, List.set_cons_zero, List.set_cons_succ, i64_w, i32_w]
                                        rfl
                                      refine pure_ (i := 8) (N := some 72) (v := ?_) (a' := ?_) #[true, true, true, true, true, false, true, true, true, false, false, false, false] rfl rfl (any_of HT_.out (by kernel_rfl)) (fun _ _ _ h => h) (Or.inl ⟨by rfl, ?_⟩) ?_ ?_
                                      rotate_left
                                      · intro w'
                                        go_simp
                                        with_reducible rfl
                                      rotate_left
                                      · simp only [Act.put, List.setIfInBounds_toArray, List.set_cons_zero, List.set_cons_succ, i64_w, i32_w]
                                        rfl
                                      refine pure_ (i := 9) (N := some 73) (v := ?_) (a' := ?_) #[true, true, true, true, true, false, true, true, true, true, false, false, false] rfl rfl (any_of HT_.out (by kernel_rfl)) (fun _ _ _ h => h) (Or.inl ⟨by rfl, ?_⟩) ?_ ?_
                                      rotate_left
                                      · intro w'
                                        go_simp
                                        with_reducible rfl
                                      rotate_left
                                      · simp only [Act.put, List.setIfInBounds_toArray, List.set_cons_zero, List.set_cons_succ, i64_w, i32_w]
                                        rfl
                                      refine take_ (i := 5) (N := some 69) (v := ?_) (a' := ?_) #[true, true, true, true, true, true, true, true, true, true, false, false, false] rfl rfl (take_ofW HT_.out HW_.out (by kernel_rfl)) (fun _ _ _ h => h) (Or.inl ⟨by rfl, ?_⟩) hHeld ?_ ?_
                                      rotate_left
                                      · rintro w' ⟨s0, s1, s2, s3, s4, s5, s6, s7, s8, s9, s10, s11, s12, s13, s14, s15⟩
                                        go_simp
                                        with_reducible rfl
                                      rotate_left
                                      · simp only [Act.put, List.setIfInBounds_toArray, List.set_cons_zero, List.set_cons_succ, i64_w, i32_w]
                                        rfl
                                      refine take_ (i := 10) (N := some 74) (v := ?_) (a' := ?_) #[true, true, true, true, true, true, true, true, true, true, true, false, false] rfl rfl (take_ofW HT_.out HW_.out (by kernel_rfl)) (fun _ _ _ h => h) (Or.inl ⟨by rfl, ?_⟩) hHeld ?_ ?_
                                      rotate_left
                                      · rintro w' ⟨s0, s1, s2, s3, s4, s5, s6, s7, s8, s9, s10, s11, s12, s13, s14, s15⟩
                                        go_simp
                                        with_reducible rfl
                                      rotate_left
                                      · simp only [Act.put, List.setIfInBounds_toArray, List.set_cons_zero, List.set_cons_succ, i64_w, i32_w]
                                        rfl
                                      refine pure_ (i := 11) (N := some 75) (v := ?_) (a' := ?_) #[true, true, true, true, true, true, true, true, true, true, true, true, false] rfl rfl (any_of HT_.out (by kernel_rfl)) (fun _ _ _ h => h) (Or.inl ⟨by rfl, ?_⟩) ?_ ?_
                                      rotate_left
                                      · intro w'
                                        go_simp
                                        with_reducible rfl
                                      rotate_left
                                      · simp only [Act.put, List.setIfInBounds_toArray, List.set_cons_zero, List.set_cons_succ, i64_w, i32_w]
                                        rfl
                                      refine pure_ (i := 12) (N := some 76) (v := ?_) (a' := ?_) #[true, true, true, true, true, true, true, true, true, true, true, true, true] rfl rfl (any_of HT_.out (by kernel_rfl)) (fun _ _ _ h => h) (Or.inl ⟨by rfl, ?_⟩) ?_ ?_
                                      rotate_left
                                      · intro w'
                                        go_simp
                                        with_reducible rfl
                                      rotate_left
                                      · simp only [Act.put, List.setIfInBounds_toArray, List.set_cons_zero, List.set_cons_succ, i64_w, i32_w]
                                        rfl
                                      refine done_ (done_of HT_.out (by kernel_rfl)) ?_
                                      try go_wp2_with (first | ((with_reducible refine gate_builtin (b := .append) (xs := #[.tmp 88, .tmp 92]) rfl ?_); at_builtin; refine Kd.R_append k26 (w0 := w) w.heap.size rfl (.tmp 88) (.tmp 92) 22 26 (.agg #[(.int .i64 0), (.int .i64 0)]) 16 rfl Try.underlying22 info26 rfl (by decide) (by omega) u8 x8_2 (⟨x10_16, (wrap64 (((rd_T37 l0 x9_2).f6) + ((rd_T37 l0 x9_2).f7)))⟩ : S26) [.int .i64 x10_16, .int .i64 (wrap64 (((rd_T37 l0 x9_2).f6) + ((rd_T37 l0 x9_2).f7)))] (fun _ => True) (fun _ => False) rfl rfl ?aP (fun _ hk => hk.elim) ?aF ?aO ?aB ?aS ?aL ?_; (case aP => exact k26_mkM _ _ _ (⟨x10_16, (wrap64 (((rd_T37 l0 x9_2).f6) + ((rd_T37 l0 x9_2).f7)))⟩ : S26)); (case aB => exact (by repeat (first | (with_reducible first | exact HB.out | apply below_alloc | apply pw_below_drewN | apply below_drew1) | exact HB.out))); (case aF => exact (fun _ _ => trivial)); (case aO => exact (by (with_reducible repeat (first | apply Kd.R_alloc | apply Kd.R_drewN | apply Kd.R_drew)); exact HO_8.out)); (case aS => exact (below_size (by repeat (first | (with_reducible first | exact HB.out | apply below_alloc | apply pw_below_drewN | apply below_drew1) | exact HB.out)))); (case aL => have := LMc27.out; omega); intro v146 w29 ho hb hg hat; rw [← Ny145.out] at ho; have n0_ := Aside0.mk (Kd.R_over' (by (with_reducible repeat (first | apply Kd.R_alloc | apply Kd.R_drewN | apply Kd.R_drew)); exact HO_6.out) (Kd.R_typed (by (with_reducible repeat (first | apply Kd.R_alloc | apply Kd.R_drewN | apply Kd.R_drew)); exact HO_8.out)) (by decide) hg); have n1_ := Aside0.mk (hb); have n2_ := Aside0.mk (ho); clear HO_6; clear HB; clear HO_8; have HO_6 := n0_; have HB := n1_; have HO147 := n2_; clear n0_ n1_ n2_; clear ho hb hg hat))
                                      go_roundg kj16
                                      case measure => have := HK1.out; have := HK2.out; have := HJ16.out; omega
                                      case rel => exact ⟨(y145), (wrap64 (x9_2 + 1)), (by first | rfl | (simp; done) | (simp [*]; done)), H', ⟨by have := HK1.out; have := HK2.out; have := HJ16.out; omega⟩, ⟨by (with_reducible repeat (first | apply Kd.R_alloc | apply Kd.R_drewN | apply Kd.R_drew)); exact HO_6.out⟩, ⟨by (with_reducible repeat (first | apply Kd.R_alloc | apply Kd.R_drewN | apply Kd.R_drew)); exact HO147.out⟩, ⟨by repeat (first | (with_reducible first | exact HB.out | apply below_alloc | apply pw_below_drewN | apply below_drew1) | exact HB.out)⟩⟩
                                    · rw [if_neg c27] at H
                                      exact absurd H (by simp)
                                · rw [if_neg c21] at H
                                  exact absurd H (by simp)
                              · rw [if_neg c20] at H
                                exact absurd H (by simp)
                        · rw [if_neg c16] at H
                          exact absurd H (by simp)
                      · rw [if_neg c15] at H
                        exact absurd H (by simp)
                    · rw [if_neg c14] at H
                      have c14b0 : ((rd l1 x9_2) == x7_1) = false := beq_eq_false_iff_ne.mpr c14
                      have c14b1 : ((rd l1 x9_2) != x7_1) = true := bne_iff_ne.mpr c14
                      have H' := Aside0.mk H
                      clear H
                      have p132 : 0 ≤ (x9_2 : Int) := of_decide_eq_true (by first | (with_reducible assumption) | assumption)
                      have q132 : x9_2 < (l1.length : Int) := of_decide_eq_true (by first | (with_reducible assumption) | assumption)
                      obtain ⟨ad132, e132, hx132_0⟩ := Kd.at_int HR1.out x9_2 p132 q132
                      cases e132
                      replace hx132_0 := (HB.out.cell (World.block_lt_of_cell? w _ hx132_0)).trans hx132_0
                      replace p132 := eq_true p132
                      replace q132 := eq_true q132
                      go_wp2
                      go_roundg k2
                      case measure => have := HK1.out; have := HK2.out; omega
                      case rel => exact ⟨(x8_2), (wrap64 (x9_2 + 1)), (by first | rfl | (simp; done) | (simp [*]; done)), H', ⟨by have := HK1.out; have := HK2.out; omega⟩, ⟨by (with_reducible repeat (first | apply Kd.R_alloc | apply Kd.R_drewN | apply Kd.R_drew)); exact HO_6.out⟩, ⟨by (with_reducible repeat (first | apply Kd.R_alloc | apply Kd.R_drewN | apply Kd.R_drew)); exact HO_8.out⟩, ⟨by repeat (first | (with_reducible first | exact HB.out | apply below_alloc | apply pw_below_drewN | apply below_drew1) | exact HB.out)⟩⟩
                  · rw [if_neg c13] at H
                    exact absurd H (by simp)
                · rw [if_neg c12] at H
                  exact absurd H (by simp)
              · rw [if_neg c11] at H
                have c11b0 : decide (x9_2 < (l0.length : Int)) = false := decide_eq_false c11
                clear c11
                by_cases c30 : 0 ≤ x7_1
                · rw [if_pos c30] at H
                  have c30b0 : decide (0 ≤ x7_1) = true := decide_eq_true c30
                  clear c30
                  by_cases c31 : x7_1 < (l0.length : Int)
                  · rw [if_pos c31] at H
                    have c31b0 : decide (x7_1 < (l0.length : Int)) = true := decide_eq_true c31
                    clear c31
                    replace H := Option.bind_eq_some_iff.mp H
                    obtain ⟨t128, A320, H⟩ := H
                    replace H : (if x6_1.length < 17592186044416 then (merkhetref27_Own.l0 k2 l0 l1 (x6_1 ++ [wrap64 (((rd_T37 l0 x7_1).f7) - (wrap64 (t128)))]) (wrap64 (x7_1 + 1))) else (none)) = some (r1, r2) := H
                    have A32 := Aside0.mk A320
                    clear A320
                    by_cases c33 : x6_1.length < 17592186044416
                    · rw [if_pos c33] at H
                      have LMc33 := Aside0.mk c33
                      clear c33
                      obtain ⟨y129, hy129⟩ : ∃ y_ : List Int, y_ = (x6_1 ++ [wrap64 (((rd_T37 l0 x7_1).f7) - (wrap64 (t128)))]) := ⟨_, rfl⟩
                      replace H : (merkhetref27_Own.l0 k2 l0 l1 y129 (wrap64 (x7_1 + 1))) = some (r1, r2) := by first | (rw [hy129]; with_reducible exact H) | (have H2_ := (Option.bind_some _ _).symm.trans H; rw [hy129]; with_reducible exact H2_) | (have H2_ := (Option.bind_some _ _).symm.trans H; with_reducible exact H2_) | with_reducible exact H | (rw [hy129]; exact H) | exact H
                      have Ny129 := Aside0.mk hy129
                      clear hy129
                      have H' := Aside0.mk H
                      clear H
                      try go_wp2
                      have n0_ := Aside0.mk (Kd.R_drew HO_6.out)
                      have n1_ := Aside0.mk (Kd.R_drew HO_8.out)
                      have n2_ := Aside0.mk (below_drew1 HB.out)
                      clear HO_6
                      clear HO_8
                      clear HB
                      have HO_6 := n0_
                      have HO_8 := n1_
                      have HB := n2_
                      clear n0_ n1_ n2_
                      have p127 : 0 ≤ (x7_1 : Int) := of_decide_eq_true (by first | (with_reducible assumption) | assumption)
                      have q127 : x7_1 < (l0.length : Int) := of_decide_eq_true (by first | (with_reducible assumption) | assumption)
                      obtain ⟨ad127, e127, hx127_0, hx127_1, hx127_2, hx127_3, hx127_4, hx127_5, hx127_6, hx127_7⟩ := at_T37 HR0.out x7_1 p127 q127
                      have hw127_7 := hx127_7
                      have hw127_6 := hx127_6
                      have hw127_5 := hx127_5
                      have hw127_4 := hx127_4
                      have hw127_3 := hx127_3
                      have hw127_2 := hx127_2
                      have hw127_1 := hx127_1
                      have hw127_0 := hx127_0
                      cases e127
                      replace hx127_0 := (HB.out.cell (World.block_lt_of_cell? w _ hx127_0)).trans hx127_0
                      replace hx127_1 := (HB.out.cell (World.block_lt_of_cell? w _ hx127_1)).trans hx127_1
                      replace hx127_2 := (HB.out.cell (World.block_lt_of_cell? w _ hx127_2)).trans hx127_2
                      replace hx127_3 := (HB.out.cell (World.block_lt_of_cell? w _ hx127_3)).trans hx127_3
                      replace hx127_4 := (HB.out.cell (World.block_lt_of_cell? w _ hx127_4)).trans hx127_4
                      replace hx127_5 := (HB.out.cell (World.block_lt_of_cell? w _ hx127_5)).trans hx127_5
                      replace hx127_6 := (HB.out.cell (World.block_lt_of_cell? w _ hx127_6)).trans hx127_6
                      replace hx127_7 := (HB.out.cell (World.block_lt_of_cell? w _ hx127_7)).trans hx127_7
                      replace p127 := eq_true p127
                      replace q127 := eq_true q127
                      obtain ⟨Ao35, co35, eo35⟩ := Kd.R_slice HO_8.out
                      (first | subst eo35 | (injection eo35 with f1_ f2_ f3_; have f4_ := f1_.symm; have f5_ := f3_.symm; clear f1_ f2_ f3_; subst f4_; subst f5_))
                      refine start_ (n := 13) (S := fun w' => w'.cell? (ad127.add ((x7_1).toNat * 8)) = some (.int .u64 ((rd_T37 l0 x7_1).f0)) ∧ w'.cell? ⟨(ad127.add ((x7_1).toNat * 8)).block, (ad127.add ((x7_1).toNat * 8)).off + 1, none⟩ = some (.int .u64 ((rd_T37 l0 x7_1).f1)) ∧ w'.cell? ⟨(ad127.add ((x7_1).toNat * 8)).block, (ad127.add ((x7_1).toNat * 8)).off + 2, none⟩ = some (.int .u64 ((rd_T37 l0 x7_1).f2)) ∧ w'.cell? ⟨(ad127.add ((x7_1).toNat * 8)).block, (ad127.add ((x7_1).toNat * 8)).off + 3, none⟩ = some (.int .u8 ((rd_T37 l0 x7_1).f3)) ∧ w'.cell? ⟨(ad127.add ((x7_1).toNat * 8)).block, (ad127.add ((x7_1).toNat * 8)).off + 4, none⟩ = some (.string ((rd_T37 l0 x7_1).f4)) ∧ w'.cell? ⟨(ad127.add ((x7_1).toNat * 8)).block, (ad127.add ((x7_1).toNat * 8)).off + 5, none⟩ = some (.string ((rd_T37 l0 x7_1).f5)) ∧ w'.cell? ⟨(ad127.add ((x7_1).toNat * 8)).block, (ad127.add ((x7_1).toNat * 8)).off + 6, none⟩ = some (.int .i64 ((rd_T37 l0 x7_1).f6)) ∧ w'.cell? ⟨(ad127.add ((x7_1).toNat * 8)).block, (ad127.add ((x7_1).toNat * 8)).off + 7, none⟩ = some (.int .i64 ((rd_T37 l0 x7_1).f7))) (ds := []) #[false, false, false, false, false, false, false, false, false, false, false, false, false] (by kernel_rfl) rfl rfl ⟨((HB.out.cell (World.block_lt_of_cell? w _ hw127_0)).trans hw127_0), ((HB.out.cell (World.block_lt_of_cell? w _ hw127_1)).trans hw127_1), ((HB.out.cell (World.block_lt_of_cell? w _ hw127_2)).trans hw127_2), ((HB.out.cell (World.block_lt_of_cell? w _ hw127_3)).trans hw127_3), ((HB.out.cell (World.block_lt_of_cell? w _ hw127_4)).trans hw127_4), ((HB.out.cell (World.block_lt_of_cell? w _ hw127_5)).trans hw127_5), ((HB.out.cell (World.block_lt_of_cell? w _ hw127_6)).trans hw127_6), ((HB.out.cell (World.block_lt_of_cell? w _ hw127_7)).trans hw127_7)⟩ (fun hHeld => ?_); refine with_tabW merkhetref27_Own.tab18 merkhetref27_Own.bits18 (fun HT_ HW_ => ?_)
                      generalize wr.drew = w34 at HO_6 HO_8 HB hx127_0 hx127_1 hx127_2 hx127_3 hx127_4 hx127_5 hx127_6 hx127_7 hHeld ⊢
                      refine pure_ (i := 0) (N := some 94) (v := ?_) (a' := ?_) #[true, false, false, false, false, false, false, false, false, false, false, false, false] rfl rfl (any_of HT_.out (by kernel_rfl)) (fun _ _ _ h => h) (Or.inl ⟨by rfl, ?_⟩) ?_ ?_
                      rotate_left
                      · intro w'
                        go_simp
                        with_reducible rfl
                      rotate_left
                      · simp only [Act.put, List.setIfInBounds_toArray, List.set_cons_zero, List.set_cons_succ, i64_w, i32_w]
                        rfl
                      refine pure_ (i := 1) (N := some 95) (v := ?_) (a' := ?_) #[true, true, false, false, false, false, false, false, false, false, false, false, false] rfl rfl (any_of HT_.out (by kernel_rfl)) (fun _ _ _ h => h) (Or.inl ⟨by rfl, ?_⟩) ?_ ?_
                      rotate_left
                      · intro w'
                        go_simp
                        with_reducible rfl
                      rotate_left
                      · simp only [Act.put, List.setIfInBounds_toArray, List.set_cons_zero, List.set_cons_succ, i64_w, i32_w]
                        rfl
                      refine pure_ (i := 2) (N := some 96) (v := ?_) (a' := ?_) #[true, true, true, false, false, false, false, false, false, false, false, false, false] rfl rfl (any_of HT_.out (by kernel_rfl)) (fun _ _ _ h => h) (Or.inl ⟨by rfl, ?_⟩) ?_ ?_
                      rotate_left
                      · intro w'
                        go_simp
                        with_reducible rfl
                      rotate_left
                      · simp only [Act.put, List.setIfInBounds_toArray, List.set_cons_zero, List.set_cons_succ, i64_w, i32_w]
                        rfl
                      refine pure_ (i := 3) (N := some 97) (v := ?_) (a' := ?_) #[true, true, true, true, false, false, false, false, false, false, false, false, false] rfl rfl (any_of HT_.out (by kernel_rfl)) (fun _ _ _ h => h) (Or.inl ⟨by rfl, ?_⟩) ?_ ?_
                      rotate_left
                      · intro w'
                        go_simp
                        with_reducible rfl
                      rotate_left
                      · simp only [Act.put, List.setIfInBounds_toArray, List.set_cons_zero, List.set_cons_succ, i64_w, i32_w]
                        rfl
                      refine pure_ (i := 4) (N := some 98) (v := ?_) (a' := ?_) #[true, true, true, true, true, false, false, false, false, false, false, false, false] rfl rfl (any_of HT_.out (by kernel_rfl)) (fun _ _ _ h => h) (Or.inl ⟨by rfl, ?_⟩) ?_ ?_
                      rotate_left
                      · intro w'
                        go_simp
                        with_reducible rfl
                      rotate_left
                      · simp only [Act.put, List.setIfInBounds_toArray, List.set_cons_zero, List.set_cons_succ, i64_w, i32_w]
                        rfl
                      refine pure_ (i := 6) (N := some 100) (v := ?_) (a' := ?_) #[true, true, true, true, true, false, true, false, false, false, false, false, false] rfl rfl (any_of HT_.out (by kernel_rfl)) (fun _ _ _ h => h) (Or.inl ⟨by rfl, ?_⟩) ?_ ?_
                      rotate_left
                      · intro w'
                        go_simp
                        with_reducible rfl
                      rotate_left
                      · simp only [Act.put, List.setIfInBounds_toArray, List.set_cons_zero, List.set_cons_succ, i64_w, i32_w]
                        rfl
                      refine take_ (i := 5) (N := some 99) (v := ?_) (a' := ?_) #[true, true, true, true, true, true, true, false, false, false, false, false, false] rfl rfl (take_ofW HT_.out HW_.out (by kernel_rfl)) (fun _ _ _ h => h) (Or.inl ⟨by rfl, ?_⟩) hHeld ?_ ?_
                      rotate_left
                      · rintro w' ⟨s0, s1, s2, s3, s4, s5, s6, s7⟩
                        go_simp
                        with_reducible rfl
                      rotate_left
                      · simp only [Act.put, List.setIfInBounds_toArray, List.set_cons_zero, List.set_cons_succ, i64_w, i32_w]
                        rfl
                      refine one_ (i := 7) (N := some 101) #[true, true, true, true, true, true, true, true, false, false, false, false, false] rfl rfl (one_of HT_.out (by kernel_rfl)) (by decide) (fun K hK => ?_)
                      refine goes_ Try.func14 (by kernel_rfl) rfl #[.slice Ao35 x8_2.length co35] (by rfl) rfl rfl (by (try simp only [List.map_toArray, List.map_cons, List.map_nil]); first | done | rfl | (simp only [List.length_drop, List.length_take]; rfl)) ?_
                      with_reducible refine (merkhetref27_Cover.calls _ _ x8_2 t128 _ ?side1 ?side2 A32.out).mono ?_
                      (case side1 => repeat (first | exact (Kd.R_reads' HO_8.out).2.2 | (with_reducible refine Kd.C_alloc ?_ _) | (with_reducible refine Kd.C_drewN ?_ _) | (with_reducible refine Kd.C_drew ?_)))
                      (case side2 => exact (Kd.R_reads' HO_8.out).2.1)
                      rintro e w36 ⟨rfl, hb⟩
                      refine ⟨_, rfl, ?_⟩
                      have n0_ := Aside0.mk (Kd.R_below (by (with_reducible repeat (first | apply Kd.R_alloc | apply Kd.R_drewN | apply Kd.R_drew)); exact HO_6.out) hb)
                      have n1_ := Aside0.mk (Kd.R_below (by (with_reducible repeat (first | apply Kd.R_alloc | apply Kd.R_drewN | apply Kd.R_drew)); exact HO_8.out) hb)
                      have n2_ := Aside0.mk (below_step (by repeat (first | (with_reducible first | exact HB.out | apply below_alloc | apply pw_below_drewN | apply below_drew1) | exact HB.out)) hb)
                      clear HO_6
                      clear HO_8
                      clear HB
                      have HO_6 := n0_
                      have HO_8 := n1_
                      have HB := n2_
                      clear n0_ n1_ n2_
                      (try clear hb)
                      (try clear hb2)
                      (try clear hk)
                      (try clear hi)
                      refine hK.out _ _ ⟨((HB.out.cell (World.block_lt_of_cell? w _ hw127_0)).trans hw127_0), ((HB.out.cell (World.block_lt_of_cell? w _ hw127_1)).trans hw127_1), ((HB.out.cell (World.block_lt_of_cell? w _ hw127_2)).trans hw127_2), ((HB.out.cell (World.block_lt_of_cell? w _ hw127_3)).trans hw127_3), ((HB.out.cell (World.block_lt_of_cell? w _ hw127_4)).trans hw127_4), ((HB.out.cell (World.block_lt_of_cell? w _ hw127_5)).trans hw127_5), ((HB.out.cell (World.block_lt_of_cell? w _ hw127_6)).trans hw127_6), ((HB.out.cell (World.block_lt_of_cell? w _ hw127_7)).trans hw127_7)⟩ (fun hHeld => ?_)
                      clear hK K
                      refine norm_ (a' := ?_) ?_ ?_
                      rotate_left
                      · show Act.put _ (some 101) _ = _
                        simp only [Act.put, List.setIfInBounds_toArray, List.set_cons_zero, List.set_cons_succ, i64_w, i32_w]
                        rfl
                      refine pure_ (i := 8) (N := some 102) (v := ?_) (a' := ?_) #[true, true, true, true, true, true, true, true, true, false, false, false, false] rfl rfl (any_of HT_.out (by kernel_rfl)) (fun _ _ _ h => h) (Or.inl ⟨by rfl, ?_⟩) ?_ ?_
                      rotate_left
                      · intro w'
                        go_simp
                        with_reducible rfl
                      rotate_left
                      · simp only [Act.put, List.setIfInBounds_toArray, List.set_cons_zero, List.set_cons_succ, i64_w, i32_w]
                        rfl
                      refine pure_ (i := 9) (N := some 103) (v := ?_) (a' := ?_) #[true, true, true, true, true, true, true, true, true, true, false, false, false] rfl rfl (any_of HT_.out (by kernel_rfl)) (fun _ _ _ h => h) (Or.inl ⟨by rfl, ?_⟩) ?_ ?_
                      rotate_left
                      · intro w'
                        go_simp
                        with_reducible rfl
                      rotate_left
                      · simp only [Act.put, List.setIfInBounds_toArray, List.set_cons_zero, List.set_cons_succ, i64_w, i32_w]
                        rfl
                      refine one_ (i := 10) (N := some 104) #[true, true, true, true, true, true, true, true, true, true, true, false, false] rfl rfl (one_of HT_.out (by kernel_rfl)) (by decide) (fun K hK => ?_)
                      refine value_ (w1 := ?_) (v := ?_) (by rfl) rfl ?_ ?_
                      rotate_left 2
                      · go_simp
                        constructor
                        · rfl
                        · rfl
                      refine hK.out _ _ ⟨(World.cell?_alloc_lt _ _ _ (World.block_lt_of_cell? _ _ (((HB.out.cell (World.block_lt_of_cell? w _ hw127_0)).trans hw127_0)))).trans (((HB.out.cell (World.block_lt_of_cell? w _ hw127_0)).trans hw127_0)), (World.cell?_alloc_lt _ _ _ (World.block_lt_of_cell? _ _ (((HB.out.cell (World.block_lt_of_cell? w _ hw127_1)).trans hw127_1)))).trans (((HB.out.cell (World.block_lt_of_cell? w _ hw127_1)).trans hw127_1)), (World.cell?_alloc_lt _ _ _ (World.block_lt_of_cell? _ _ (((HB.out.cell (World.block_lt_of_cell? w _ hw127_2)).trans hw127_2)))).trans (((HB.out.cell (World.block_lt_of_cell? w _ hw127_2)).trans hw127_2)), (World.cell?_alloc_lt _ _ _ (World.block_lt_of_cell? _ _ (((HB.out.cell (World.block_lt_of_cell? w _ hw127_3)).trans hw127_3)))).trans (((HB.out.cell (World.block_lt_of_cell? w _ hw127_3)).trans hw127_3)), (World.cell?_alloc_lt _ _ _ (World.block_lt_of_cell? _ _ (((HB.out.cell (World.block_lt_of_cell? w _ hw127_4)).trans hw127_4)))).trans (((HB.out.cell (World.block_lt_of_cell? w _ hw127_4)).trans hw127_4)), (World.cell?_alloc_lt _ _ _ (World.block_lt_of_cell? _ _ (((HB.out.cell (World.block_lt_of_cell? w _ hw127_5)).trans hw127_5)))).trans (((HB.out.cell (World.block_lt_of_cell? w _ hw127_5)).trans hw127_5)), (World.cell?_alloc_lt _ _ _ (World.block_lt_of_cell? _ _ (((HB.out.cell (World.block_lt_of_cell? w _ hw127_6)).trans hw127_6)))).trans (((HB.out.cell (World.block_lt_of_cell? w _ hw127_6)).trans hw127_6)), (World.cell?_alloc_lt _ _ _ (World.block_lt_of_cell? _ _ (((HB.out.cell (World.block_lt_of_cell? w _ hw127_7)).trans hw127_7)))).trans (((HB.out.cell (World.block_lt_of_cell? w _ hw127_7)).trans hw127_7))⟩ (fun hHeld => ?_)
                      clear hK K
                      refine norm_ (a' := ?_) ?_ ?_
                      rotate_left
                      · show Act.put _ (some 104) _ = _
                        simp only [Act.put, List.setIfInBounds_toArray, List.set_cons_zero, List.set_cons_succ, i64_w, i32_w]
                        rfl
                      refine one_ (i := 11) (N := some 105) #[true, true, true, true, true, true, true, true, true, true, true, true, false] rfl rfl (one_of HT_.out (by kernel_rfl)) (by decide) (fun K hK => ?_)
                      refine Kd.R_append_step (Kd.int .i64) (w0 := w) w.heap.size (by rfl) (.tmp 94) (.tmp 104) 31 2 (.int .i64 0) 8 rfl Try.underlying31 info2 rfl (by decide) (by omega) u6 x6_1 (wrap64 (((rd_T37 l0 x7_1).f7) - (wrap64 (t128)))) [.int .i64 (wrap64 (((rd_T37 l0 x7_1).f7) - (wrap64 (t128))))] (fun _ => True) (fun _ => False) rfl rfl ?aP (fun _ hk => hk.elim) ?aF ?aO ?aB ?aS ?aL ?_
                      (case aP => exact rfl)
                      (case aB => exact (by repeat (first | (with_reducible first | exact HB.out | apply below_alloc | apply pw_below_drewN | apply below_drew1) | exact HB.out)))
                      (case aF => exact (fun _ _ => trivial))
                      (case aO => exact (by (with_reducible repeat (first | apply Kd.R_alloc | apply Kd.R_drewN | apply Kd.R_drew)); exact HO_6.out))
                      (case aS => exact (below_size (by repeat (first | (with_reducible first | exact HB.out | apply below_alloc | apply pw_below_drewN | apply below_drew1) | exact HB.out))))
                      (case aL => have := LMc33.out; omega)
                      intro v130 w37 ho hb hg hat
                      rw [← Ny129.out] at ho
                      have n0_ := Aside0.mk (Kd.R_over' (by (with_reducible repeat (first | apply Kd.R_alloc | apply Kd.R_drewN | apply Kd.R_drew)); exact HO_8.out) (Kd.R_typed (by (with_reducible repeat (first | apply Kd.R_alloc | apply Kd.R_drewN | apply Kd.R_drew)); exact HO_6.out)) (by decide) hg)
                      have n1_ := Aside0.mk (hb)
                      have n2_ := Aside0.mk (ho)
                      clear HO_8
                      clear HB
                      clear HO_6
                      have HO_8 := n0_
                      have HB := n1_
                      have HO131 := n2_
                      clear n0_ n1_ n2_
                      clear ho hb hg hat
                      refine hK.out _ _ ⟨((HB.out.cell (World.block_lt_of_cell? w _ hw127_0)).trans hw127_0), ((HB.out.cell (World.block_lt_of_cell? w _ hw127_1)).trans hw127_1), ((HB.out.cell (World.block_lt_of_cell? w _ hw127_2)).trans hw127_2), ((HB.out.cell (World.block_lt_of_cell? w _ hw127_3)).trans hw127_3), ((HB.out.cell (World.block_lt_of_cell? w _ hw127_4)).trans hw127_4), ((HB.out.cell (World.block_lt_of_cell? w _ hw127_5)).trans hw127_5), ((HB.out.cell (World.block_lt_of_cell? w _ hw127_6)).trans hw127_6), ((HB.out.cell (World.block_lt_of_cell? w _ hw127_7)).trans hw127_7)⟩ (fun hHeld => ?_)
                      clear hK K
                      refine norm_ (a' := ?_) ?_ ?_
                      rotate_left
                      · show Act.put _ (some 105) _ = _
                        simp only [Act.put, List.setIfInBounds_toArray, List.set_cons_zero, List.set_cons_succ, i64_w, i32_w]
                        rfl
                      refine pure_ (i := 12) (N := some 6) (v := ?_) (a' := ?_) #[true, true, true, true, true, true, true, true, true, true, true, true, true] rfl rfl (any_of HT_.out (by kernel_rfl)) (fun _ _ _ h => h) (Or.inl ⟨by rfl, ?_⟩) ?_ ?_
                      rotate_left
                      · intro w'
                        go_simp
                        with_reducible rfl
                      rotate_left
                      · simp only [Act.put, List.setIfInBounds_toArray, List.set_cons_zero, List.set_cons_succ, i64_w, i32_w]
                        rfl
                      refine done_ (done_of HT_.out (by kernel_rfl)) ?_
                      try go_wp2
                      go_roundg k2
                      case measure => have := HK1.out; have := HK2.out; omega
                      case rel => exact ⟨(y129), (wrap64 (x7_1 + 1)), (by first | rfl | (simp; done) | (simp [*]; done)), H', ⟨by have := HK1.out; have := HK2.out; omega⟩, ⟨by (with_reducible repeat (first | apply Kd.R_alloc | apply Kd.R_drewN | apply Kd.R_drew)); exact HO131.out⟩, ⟨by repeat (first | (with_reducible first | exact HB.out | apply below_alloc | apply pw_below_drewN | apply below_drew1) | exact HB.out)⟩⟩
                    · rw [if_neg c33] at H
                      exact absurd H (by simp)
                  · rw [if_neg c31] at H
                    exact absurd H (by simp)
                · rw [if_neg c30] at H
                  exact absurd H (by simp)
        · rw [if_neg c8] at H
          have c8b0 : decide (x7_1 < (l0.length : Int)) = false := decide_eq_false c8
          clear c8
          simp only [Option.some.injEq, Prod.mk.injEq] at H
          obtain ⟨rfl, rfl⟩ := H
          go_wp2
          go_ret2
          exact ⟨_, by first | rfl | (simp [errW_none, errW_some] <;> rfl) | (simp [*, errW_none, errW_some] <;> rfl), by (with_reducible repeat (first | apply Kd.R_alloc | apply Kd.R_drewN | apply Kd.R_drew)); exact HO_6.out, by repeat (first | (with_reducible first | exact HB.out | apply below_alloc | apply pw_below_drewN | apply below_drew1) | exact HB.out)⟩
  · replace c4 := Bool.eq_false_iff.mpr c4
    subst c4
    have H1 : (some (([] : List Int), false)) = some (r1, r2) := by rw [if_neg (show ¬ (false = true) by decide)] at H; exact H
    clear H
    have H := H1
    clear H1
    simp only [Option.some.injEq, Prod.mk.injEq] at H
    obtain ⟨rfl, rfl⟩ := H
    go_enter Try.func17, Try.ntmps17
    go_wp2_with (first | ((with_reducible refine gate_callee (f := 45) rfl ?_); refine goesL_ (some 14) rfl rfl Try.func45 (by kernel_rfl) rfl #[.slice A0 l0.length c0, .slice A1 l1.length c1] rfl (by (try simp only [List.map_toArray, List.map_cons, List.map_nil]); first | done | rfl | (simp only [List.length_drop, List.length_take]; rfl)) ?_; (with_reducible refine (merkhetref19_Right.calls k _ _ l0 _ _ l1 false _ ?side1 ?side2 ?side3 ?side4 A3.out).mono ?_); (case side1 => repeat (first | exact HR0.out | (with_reducible refine Kd.C_alloc ?_ _) | (with_reducible refine Kd.C_drewN ?_ _) | (with_reducible refine Kd.C_drew ?_))); (case side2 => exact HC0.out); (case side3 => repeat (first | exact HR1.out | (with_reducible refine Kd.C_alloc ?_ _) | (with_reducible refine Kd.C_drewN ?_ _) | (with_reducible refine Kd.C_drew ?_))); (case side4 => exact HC1.out); rintro e w38 ⟨rfl, hb⟩; refine ⟨_, rfl, ?_⟩; have n0_ := Aside0.mk (below_step (by repeat (first | (with_reducible first | exact HB.out | apply below_alloc | apply pw_below_drewN | apply below_drew1) | exact HB.out)) hb); clear HB; have HB := n0_; clear n0_; (try clear hb); (try clear hb2); (try clear hk); (try clear hi)))
    go_ret2
    exact ⟨_, by first | rfl | (simp [errW_none, errW_some] <;> rfl) | (simp [*, errW_none, errW_some] <;> rfl), by first | exact Kd.R_nil _ _ _ _ _ | exact Kd.N_nil _ _ _ _ _ | exact Kd.V_nil _ _ _ _ _ | exact Kd.Q_nil _ _ _ _ _ | exact Kd.S_nil _ _ _ _ _, by repeat (first | (with_reducible first | exact HB.out | apply below_alloc | apply pw_below_drewN | apply below_drew1) | exact HB.out)⟩

end Go.Proofs.Ytmfdhcgdibefiaa.R

-- Written by wip/tools/gp.py, a program of this session round the kit's printer. Lean checks it.
namespace Go.Proofs.Ytmfdhcgdibefiaa.R
open Go.RowKit Go.Proofs.Ytmfdhcgdibefiaa.Q Go.Proofs.YtmfdhcgdibefiaaW.PrintWords Go.Proofs.YtmfdhcgdibefiaaW.PrintLast Go.Proofs.YtmfdhcgdibefiaaW.PrintMore
attribute [local go_sem] max2_int min2_int max_two min_two max_three min_three max_four min_four   -- for this text's walks alone
set_option linter.unusedVariables false
set_option linter.unusedSimpArgs false

/-! ### merkhetlaw27_fixed: function 12 -/
def merkhetlaw27_fixed.f (k : Nat)  : Option (Bool) := (merkhetlaw27_fixed_1.f 1 0 10).bind fun bt148 => ((merkhetlaw27_fixed_1.f 2 2 2).bind fun bt156 => ((merkhetlaw27_fixed_1.f 3 3 9).bind fun bt164 => ((stats_Own.f k (([(⟨bt148.1, bt148.2.1, bt148.2.2.1, bt148.2.2.2.1, bt148.2.2.2.2.1, bt148.2.2.2.2.2.1, bt148.2.2.2.2.2.2.1, bt148.2.2.2.2.2.2.2⟩ : S37), (⟨bt156.1, bt156.2.1, bt156.2.2.1, bt156.2.2.2.1, bt156.2.2.2.2.1, bt156.2.2.2.2.2.1, bt156.2.2.2.2.2.2.1, bt156.2.2.2.2.2.2.2⟩ : S37), (⟨bt164.1, bt164.2.1, bt164.2.2.1, bt164.2.2.2.1, bt164.2.2.2.2.1, bt164.2.2.2.2.2.1, bt164.2.2.2.2.2.2.1, bt164.2.2.2.2.2.2.2⟩ : S37)] : List (S37))) (([(-1), 0, 0] : List Int))).bind fun bt178 => ((stats_Cover.f (([(⟨1, 5⟩ : S26), (⟨3, 8⟩ : S26)] : List (S26)))).bind fun t185 => (if t185 = 7 then (if bt178.2 = true then ((merkhetref15_Same.f k bt178.1 (([2, 2, 9] : List Int))).bind fun t189 => (some t189)) else (some false)) else (some false))))))
theorem merkhetlaw27_fixed.mono : ∀ k, LeO (merkhetlaw27_fixed.f k ) (merkhetlaw27_fixed.f (k + 1) ) := by
  intro  k
  unfold merkhetlaw27_fixed.f
  repeat' first
      | (with_reducible exact merkhetref15_Same.mono _ _ _)
      | (with_reducible exact stats_Own.mono _ _ _)
      | (with_reducible exact LeO.refl _)
      | (with_reducible exact LeO.none _)
      | (with_reducible refine LeO.ite ?_ ?_)
      | (with_reducible refine LeO.bind ?_ (fun _ => ?_))
      | exact merkhetref15_Same.mono _ _ _
      | exact stats_Own.mono _ _ _
      | exact LeO.none _
      | refine LeO.ite ?_ ?_
      | refine LeO.bind ?_ (fun _ => ?_)
set_option maxHeartbeats 8000000 in
set_option maxRecDepth 100000 in
theorem merkhetlaw27_fixed.calls (k : Nat)  (r : Bool) (w : World) (h : merkhetlaw27_fixed.f k  = some r) :
    Calls Try.prog 12 #[] w fun e w' => e = .returned (.bool r) ∧ Below w.heap.size w w' := by
  have hu26 := Try.underlying26
  have HB := Aside0.mk (Below.refl w.heap.size w)
  have H : ((merkhetlaw27_fixed_1.f 1 0 10).bind fun bt148 => ((merkhetlaw27_fixed_1.f 2 2 2).bind fun bt156 => ((merkhetlaw27_fixed_1.f 3 3 9).bind fun bt164 => ((stats_Own.f k (([(⟨bt148.1, bt148.2.1, bt148.2.2.1, bt148.2.2.2.1, bt148.2.2.2.2.1, bt148.2.2.2.2.2.1, bt148.2.2.2.2.2.2.1, bt148.2.2.2.2.2.2.2⟩ : S37), (⟨bt156.1, bt156.2.1, bt156.2.2.1, bt156.2.2.2.1, bt156.2.2.2.2.1, bt156.2.2.2.2.2.1, bt156.2.2.2.2.2.2.1, bt156.2.2.2.2.2.2.2⟩ : S37), (⟨bt164.1, bt164.2.1, bt164.2.2.1, bt164.2.2.2.1, bt164.2.2.2.2.1, bt164.2.2.2.2.2.1, bt164.2.2.2.2.2.2.1, bt164.2.2.2.2.2.2.2⟩ : S37)] : List (S37))) (([(-1), 0, 0] : List Int))).bind fun bt178 => ((stats_Cover.f (([(⟨1, 5⟩ : S26), (⟨3, 8⟩ : S26)] : List (S26)))).bind fun t185 => (if t185 = 7 then (if bt178.2 = true then ((merkhetref15_Same.f k bt178.1 (([2, 2, 9] : List Int))).bind fun t189 => (some t189)) else (some false)) else (some false))))))) = some r := h
  clear h
  replace H := Option.bind_eq_some_iff.mp H
  obtain ⟨⟨t148, t149, t150, t151, t152, t153, t154, t155⟩, A10, H⟩ := H
  replace H : ((merkhetlaw27_fixed_1.f 2 2 2).bind fun bt156 => ((merkhetlaw27_fixed_1.f 3 3 9).bind fun bt164 => ((stats_Own.f k (([(⟨t148, t149, t150, t151, t152, t153, t154, t155⟩ : S37), (⟨bt156.1, bt156.2.1, bt156.2.2.1, bt156.2.2.2.1, bt156.2.2.2.2.1, bt156.2.2.2.2.2.1, bt156.2.2.2.2.2.2.1, bt156.2.2.2.2.2.2.2⟩ : S37), (⟨bt164.1, bt164.2.1, bt164.2.2.1, bt164.2.2.2.1, bt164.2.2.2.2.1, bt164.2.2.2.2.2.1, bt164.2.2.2.2.2.2.1, bt164.2.2.2.2.2.2.2⟩ : S37)] : List (S37))) (([(-1), 0, 0] : List Int))).bind fun bt178 => ((stats_Cover.f (([(⟨1, 5⟩ : S26), (⟨3, 8⟩ : S26)] : List (S26)))).bind fun t185 => (if t185 = 7 then (if bt178.2 = true then ((merkhetref15_Same.f k bt178.1 (([2, 2, 9] : List Int))).bind fun t189 => (some t189)) else (some false)) else (some false)))))) = some r := H
  have A1 := Aside0.mk A10
  clear A10
  replace H := Option.bind_eq_some_iff.mp H
  obtain ⟨⟨t156, t157, t158, t159, t160, t161, t162, t163⟩, A20, H⟩ := H
  replace H : ((merkhetlaw27_fixed_1.f 3 3 9).bind fun bt164 => ((stats_Own.f k (([(⟨t148, t149, t150, t151, t152, t153, t154, t155⟩ : S37), (⟨t156, t157, t158, t159, t160, t161, t162, t163⟩ : S37), (⟨bt164.1, bt164.2.1, bt164.2.2.1, bt164.2.2.2.1, bt164.2.2.2.2.1, bt164.2.2.2.2.2.1, bt164.2.2.2.2.2.2.1, bt164.2.2.2.2.2.2.2⟩ : S37)] : List (S37))) (([(-1), 0, 0] : List Int))).bind fun bt178 => ((stats_Cover.f (([(⟨1, 5⟩ : S26), (⟨3, 8⟩ : S26)] : List (S26)))).bind fun t185 => (if t185 = 7 then (if bt178.2 = true then ((merkhetref15_Same.f k bt178.1 (([2, 2, 9] : List Int))).bind fun t189 => (some t189)) else (some false)) else (some false))))) = some r := H
  have A2 := Aside0.mk A20
  clear A20
  replace H := Option.bind_eq_some_iff.mp H
  obtain ⟨⟨t164, t165, t166, t167, t168, t169, t170, t171⟩, A30, H⟩ := H
  replace H : ((stats_Own.f k (([(⟨t148, t149, t150, t151, t152, t153, t154, t155⟩ : S37), (⟨t156, t157, t158, t159, t160, t161, t162, t163⟩ : S37), (⟨t164, t165, t166, t167, t168, t169, t170, t171⟩ : S37)] : List (S37))) (([(-1), 0, 0] : List Int))).bind fun bt178 => ((stats_Cover.f (([(⟨1, 5⟩ : S26), (⟨3, 8⟩ : S26)] : List (S26)))).bind fun t185 => (if t185 = 7 then (if bt178.2 = true then ((merkhetref15_Same.f k bt178.1 (([2, 2, 9] : List Int))).bind fun t189 => (some t189)) else (some false)) else (some false)))) = some r := H
  have A3 := Aside0.mk A30
  clear A30
  obtain ⟨y172, hy172⟩ : ∃ y_ : List (S37), y_ = (([(⟨t148, t149, t150, t151, t152, t153, t154, t155⟩ : S37), (⟨t156, t157, t158, t159, t160, t161, t162, t163⟩ : S37), (⟨t164, t165, t166, t167, t168, t169, t170, t171⟩ : S37)] : List (S37))) := ⟨_, rfl⟩
  replace H : ((stats_Own.f k y172 (([(-1), 0, 0] : List Int))).bind fun bt178 => ((stats_Cover.f (([(⟨1, 5⟩ : S26), (⟨3, 8⟩ : S26)] : List (S26)))).bind fun t185 => (if t185 = 7 then (if bt178.2 = true then ((merkhetref15_Same.f k bt178.1 (([2, 2, 9] : List Int))).bind fun t189 => (some t189)) else (some false)) else (some false)))) = some r := by first | (rw [hy172]; with_reducible exact H) | (have H2_ := (Option.bind_some _ _).symm.trans H; rw [hy172]; with_reducible exact H2_) | (have H2_ := (Option.bind_some _ _).symm.trans H; with_reducible exact H2_) | with_reducible exact H | (rw [hy172]; exact H) | exact H
  have Ny172 := Aside0.mk hy172
  clear hy172
  obtain ⟨y175, hy175⟩ : ∃ y_ : List Int, y_ = (([(-1), 0, 0] : List Int)) := ⟨_, rfl⟩
  replace H : ((stats_Own.f k y172 y175).bind fun bt178 => ((stats_Cover.f (([(⟨1, 5⟩ : S26), (⟨3, 8⟩ : S26)] : List (S26)))).bind fun t185 => (if t185 = 7 then (if bt178.2 = true then ((merkhetref15_Same.f k bt178.1 (([2, 2, 9] : List Int))).bind fun t189 => (some t189)) else (some false)) else (some false)))) = some r := by first | (rw [hy175]; with_reducible exact H) | (have H2_ := (Option.bind_some _ _).symm.trans H; rw [hy175]; with_reducible exact H2_) | (have H2_ := (Option.bind_some _ _).symm.trans H; with_reducible exact H2_) | with_reducible exact H | (rw [hy175]; exact H) | exact H
  have Ny175 := Aside0.mk hy175
  clear hy175
  replace H := Option.bind_eq_some_iff.mp H
  obtain ⟨⟨t178, t179⟩, A40, H⟩ := H
  replace H : ((stats_Cover.f (([(⟨1, 5⟩ : S26), (⟨3, 8⟩ : S26)] : List (S26)))).bind fun t185 => (if t185 = 7 then (if t179 = true then ((merkhetref15_Same.f k t178 (([2, 2, 9] : List Int))).bind fun t189 => (some t189)) else (some false)) else (some false))) = some r := H
  have A4 := Aside0.mk A40
  clear A40
  obtain ⟨y182, hy182⟩ : ∃ y_ : List (S26), y_ = (([(⟨1, 5⟩ : S26), (⟨3, 8⟩ : S26)] : List (S26))) := ⟨_, rfl⟩
  replace H : ((stats_Cover.f y182).bind fun t185 => (if t185 = 7 then (if t179 = true then ((merkhetref15_Same.f k t178 (([2, 2, 9] : List Int))).bind fun t189 => (some t189)) else (some false)) else (some false))) = some r := by first | (rw [hy182]; with_reducible exact H) | (have H2_ := (Option.bind_some _ _).symm.trans H; rw [hy182]; with_reducible exact H2_) | (have H2_ := (Option.bind_some _ _).symm.trans H; with_reducible exact H2_) | with_reducible exact H | (rw [hy182]; exact H) | exact H
  have Ny182 := Aside0.mk hy182
  clear hy182
  replace H := Option.bind_eq_some_iff.mp H
  obtain ⟨t185, A50, H⟩ := H
  replace H : (if t185 = 7 then (if t179 = true then ((merkhetref15_Same.f k t178 (([2, 2, 9] : List Int))).bind fun t189 => (some t189)) else (some false)) else (some false)) = some r := H
  have A5 := Aside0.mk A50
  clear A50
  by_cases c6 : t185 = 7
  · rw [if_pos c6] at H
    have c6b0 : (t185 == 7) = true := beq_iff_eq.mpr c6
    have c6b1 : (t185 != 7) = false := bne_eq_false_iff_eq.mpr c6
    clear c6
    by_cases c7 : t179 = true
    · subst c7
      have H1 : ((merkhetref15_Same.f k t178 (([2, 2, 9] : List Int))).bind fun t189 => (some t189)) = some r := by rw [if_pos rfl] at H; exact H
      clear H
      have H := H1
      clear H1
      obtain ⟨y186, hy186⟩ : ∃ y_ : List Int, y_ = (([2, 2, 9] : List Int)) := ⟨_, rfl⟩
      replace H : ((merkhetref15_Same.f k t178 y186).bind fun t189 => (some t189)) = some r := by first | (rw [hy186]; with_reducible exact H) | (have H2_ := (Option.bind_some _ _).symm.trans H; rw [hy186]; with_reducible exact H2_) | (have H2_ := (Option.bind_some _ _).symm.trans H; with_reducible exact H2_) | with_reducible exact H | (rw [hy186]; exact H) | exact H
      have Ny186 := Aside0.mk hy186
      clear hy186
      replace H := Option.bind_eq_some_iff.mp H
      obtain ⟨t189, A80, H⟩ := H
      replace H : (some t189) = some r := H
      have A8 := Aside0.mk A80
      clear A80
      obtain rfl := Option.some.inj H
      go_enter Try.func12, Try.ntmps12
      go_wp2_with (first | ((with_reducible refine Go.Proofs.YtmfdhcgdibefiaaW.FunV.gate_value rfl ?_); refine Go.Proofs.YtmfdhcgdibefiaaW.FunV.goesV_ (some 6) rfl rfl Try.func35 (by kernel_rfl) rfl #[.int .u64 1, .int .i64 0, .int .i64 10] rfl rfl (by (try simp only [List.map_toArray, List.map_cons, List.map_nil]); first | done | rfl | (simp only [List.length_drop, List.length_take]; rfl)) ?_; (with_reducible refine (merkhetlaw27_fixed_1.calls 1 0 10 t148 t149 t150 t151 t152 t153 t154 t155 _ A1.out).mono ?_); rintro e w9 ⟨rfl, hb⟩; refine ⟨_, rfl, ?_⟩; have n0_ := Aside0.mk (below_step (by repeat (first | (with_reducible first | exact HB.out | apply below_alloc | apply pw_below_drewN | apply below_drew1) | exact HB.out)) hb); clear HB; have HB := n0_; clear n0_; (try clear hb); (try clear hb2); (try clear hk); (try clear hi)) | ((with_reducible refine Go.Proofs.YtmfdhcgdibefiaaW.FunV.gate_value rfl ?_); refine Go.Proofs.YtmfdhcgdibefiaaW.FunV.goesV_ (some 8) rfl rfl Try.func35 (by kernel_rfl) rfl #[.int .u64 2, .int .i64 2, .int .i64 2] rfl rfl (by (try simp only [List.map_toArray, List.map_cons, List.map_nil]); first | done | rfl | (simp only [List.length_drop, List.length_take]; rfl)) ?_; (with_reducible refine (merkhetlaw27_fixed_1.calls 2 2 2 t156 t157 t158 t159 t160 t161 t162 t163 _ A2.out).mono ?_); rintro e w10 ⟨rfl, hb⟩; refine ⟨_, rfl, ?_⟩; have n0_ := Aside0.mk (below_step (by repeat (first | (with_reducible first | exact HB.out | apply below_alloc | apply pw_below_drewN | apply below_drew1) | exact HB.out)) hb); clear HB; have HB := n0_; clear n0_; (try clear hb); (try clear hb2); (try clear hk); (try clear hi)) | ((with_reducible refine Go.Proofs.YtmfdhcgdibefiaaW.FunV.gate_value rfl ?_); refine Go.Proofs.YtmfdhcgdibefiaaW.FunV.goesV_ (some 10) rfl rfl Try.func35 (by kernel_rfl) rfl #[.int .u64 3, .int .i64 3, .int .i64 9] rfl rfl (by (try simp only [List.map_toArray, List.map_cons, List.map_nil]); first | done | rfl | (simp only [List.length_drop, List.length_take]; rfl)) ?_; (with_reducible refine (merkhetlaw27_fixed_1.calls 3 3 9 t164 t165 t166 t167 t168 t169 t170 t171 _ A3.out).mono ?_); rintro e w11 ⟨rfl, hb⟩; refine ⟨_, rfl, ?_⟩; have n0_ := Aside0.mk (below_step (by repeat (first | (with_reducible first | exact HB.out | apply below_alloc | apply pw_below_drewN | apply below_drew1) | exact HB.out)) hb); clear HB; have HB := n0_; clear n0_; (try clear hb); (try clear hb2); (try clear hk); (try clear hi)) | ((with_reducible refine gate_dst (N := 11) rfl ?_); (try (refine gate_guard (by rfl) ?_; dsimp only)); refine Kd.R_lit k37 _ 37 ?hg (N := 11) ?hd (xs := ([(⟨t148, t149, t150, t151, t152, t153, t154, t155⟩ : S37), (⟨t156, t157, t158, t159, t160, t161, t162, t163⟩ : S37), (⟨t164, t165, t166, t167, t168, t169, t170, t171⟩ : S37)] : List (S37))) (inner := [.int .u64 t148, .int .u64 t149, .int .u64 t150, .int .u8 t151, .string t152, .string t153, .int .i64 t154, .int .i64 t155, .int .u64 t156, .int .u64 t157, .int .u64 t158, .int .u8 t159, .string t160, .string t161, .int .i64 t162, .int .i64 t163, .int .u64 t164, .int .u64 t165, .int .u64 t166, .int .u8 t167, .string t168, .string t169, .int .i64 t170, .int .i64 t171]) (ok := fun _ => True) (okp := fun _ => True) ?hr ?hp (fun _ hk => hk) trivial (Below.refl _ _) (Nat.le_refl _) (by simp) ?_; (case hd => rfl); (case hg => rfl); (case hr => first | (go_simp; done) | (go_simp; rfl)); (case hp => exact (Reps.c8 (show Kd.M k37 _ _ _ (⟨t148, t149, t150, t151, t152, t153, t154, t155⟩ : S37) [.int .u64 t148, .int .u64 t149, .int .u64 t150, .int .u8 t151, .string t152, .string t153, .int .i64 t154, .int .i64 t155] from (k37_mkM _ _ _ (⟨t148, t149, t150, t151, t152, t153, t154, t155⟩ : S37) )) (Reps.c8 (show Kd.M k37 _ _ _ (⟨t156, t157, t158, t159, t160, t161, t162, t163⟩ : S37) [.int .u64 t156, .int .u64 t157, .int .u64 t158, .int .u8 t159, .string t160, .string t161, .int .i64 t162, .int .i64 t163] from (k37_mkM _ _ _ (⟨t156, t157, t158, t159, t160, t161, t162, t163⟩ : S37) )) (Reps.c8 (show Kd.M k37 _ _ _ (⟨t164, t165, t166, t167, t168, t169, t170, t171⟩ : S37) [.int .u64 t164, .int .u64 t165, .int .u64 t166, .int .u8 t167, .string t168, .string t169, .int .i64 t170, .int .i64 t171] from (k37_mkM _ _ _ (⟨t164, t165, t166, t167, t168, t169, t170, t171⟩ : S37) )) (Reps.none _ _))))); intro v173 w12 ho13 hb hg_ hnew_; clear hg_ hnew_; (first | rw [← Ny172.out] at ho13 | (simp only [Int.reduceToNat] at ho13; rw [← Ny172.out] at ho13)); have n0_ := Aside0.mk (Kd.R_lower ho13 (below_size (by repeat (first | (with_reducible first | exact HB.out | apply below_alloc | apply pw_below_drewN | apply below_drew1) | exact HB.out)))); have n1_ := Aside0.mk (below_step (by repeat (first | (with_reducible first | exact HB.out | apply below_alloc | apply pw_below_drewN | apply below_drew1) | exact HB.out)) hb); clear HB; have HO174 := n0_; have HB := n1_; clear n0_ n1_; clear hb ho13) | ((with_reducible refine gate_dst (N := 12) rfl ?_); (try (refine gate_guard (by rfl) ?_; dsimp only)); refine Kd.R_lit (Kd.int .i64) _ 3 ?hg (N := 12) ?hd (xs := ([(-1), 0, 0] : List Int)) (inner := [.int .i64 (-1), .int .i64 0, .int .i64 0]) (ok := fun _ => True) (okp := fun _ => True) ?hr ?hp (fun _ hk => hk) trivial (Below.refl _ _) (Nat.le_refl _) (by simp) ?_; (case hd => rfl); (case hg => rfl); (case hr => first | (go_simp; done) | (go_simp; rfl)); (case hp => exact (Reps.one (show Kd.M (Kd.int .i64) _ _ _ (-1) [.int .i64 (-1)] from rfl) (Reps.one (show Kd.M (Kd.int .i64) _ _ _ 0 [.int .i64 0] from rfl) (Reps.one (show Kd.M (Kd.int .i64) _ _ _ 0 [.int .i64 0] from rfl) (Reps.none _ _))))); intro v176 w14 ho15 hb hg_ hnew_; clear hg_ hnew_; (first | rw [← Ny175.out] at ho15 | (simp only [Int.reduceToNat] at ho15; rw [← Ny175.out] at ho15)); have n0_ := Aside0.mk (Kd.R_below (by (with_reducible repeat (first | apply Kd.R_alloc | apply Kd.R_drewN | apply Kd.R_drew)); exact HO174.out) hb); have n1_ := Aside0.mk (Kd.R_lower ho15 (below_size (by repeat (first | (with_reducible first | exact HB.out | apply below_alloc | apply pw_below_drewN | apply below_drew1) | exact HB.out)))); have n2_ := Aside0.mk (below_step (by repeat (first | (with_reducible first | exact HB.out | apply below_alloc | apply pw_below_drewN | apply below_drew1) | exact HB.out)) hb); clear HO174; clear HB; have HO174 := n0_; have HO177 := n1_; have HB := n2_; clear n0_ n1_ n2_; clear hb ho15; obtain ⟨Ao16, co16, eo16⟩ := Kd.R_slice HO174.out; subst eo16; obtain ⟨Ao17, co17, eo17⟩ := Kd.R_slice HO177.out; subst eo17) | ((with_reducible refine gate_callee (f := 16) rfl ?_); refine goesL_ (some 13) rfl rfl Try.func16 (by kernel_rfl) rfl #[.slice Ao16 y172.length co16, .slice Ao17 y175.length co17] rfl (by (try simp only [List.map_toArray, List.map_cons, List.map_nil]); first | done | rfl | (simp only [List.length_drop, List.length_take]; rfl)) ?_; (with_reducible refine (stats_Own.calls k _ _ y172 _ _ y175 t178 true _ ?side1 ?side2 ?side3 ?side4 A4.out).mono ?_); (case side1 => repeat (first | exact (Kd.R_reads' HO174.out).2.2 | (with_reducible refine Kd.C_alloc ?_ _) | (with_reducible refine Kd.C_drewN ?_ _) | (with_reducible refine Kd.C_drew ?_))); (case side2 => exact (Kd.R_reads' HO174.out).2.1); (case side3 => repeat (first | exact (Kd.R_reads' HO177.out).2.2 | (with_reducible refine Kd.C_alloc ?_ _) | (with_reducible refine Kd.C_drewN ?_ _) | (with_reducible refine Kd.C_drew ?_))); (case side4 => exact (Kd.R_reads' HO177.out).2.1); rintro e w18 ⟨v180, rfl, ho0, hb⟩; refine ⟨_, rfl, ?_⟩; have n0_ := Aside0.mk (Kd.R_below (by (with_reducible repeat (first | apply Kd.R_alloc | apply Kd.R_drewN | apply Kd.R_drew)); exact HO174.out) hb); have n1_ := Aside0.mk (Kd.R_below (by (with_reducible repeat (first | apply Kd.R_alloc | apply Kd.R_drewN | apply Kd.R_drew)); exact HO177.out) hb); have n2_ := Aside0.mk (Kd.R_lower ho0 (below_size (by repeat (first | (with_reducible first | exact HB.out | apply below_alloc | apply pw_below_drewN | apply below_drew1) | exact HB.out)))); have n3_ := Aside0.mk (below_step (by repeat (first | (with_reducible first | exact HB.out | apply below_alloc | apply pw_below_drewN | apply below_drew1) | exact HB.out)) hb); clear HO174; clear HO177; clear HB; have HO174 := n0_; have HO177 := n1_; have HO181 := n2_; have HB := n3_; clear n0_ n1_ n2_ n3_; (try clear hb); (try clear hb2); (try clear hk); (try clear hi); (try clear ho0)) | ((with_reducible refine gate_dst (N := 18) rfl ?_); (try (refine gate_guard (by rfl) ?_; dsimp only)); refine Kd.R_lit k26 _ 26 ?hg (N := 18) ?hd (xs := ([(⟨1, 5⟩ : S26), (⟨3, 8⟩ : S26)] : List (S26))) (inner := [.int .i64 1, .int .i64 5, .int .i64 3, .int .i64 8]) (ok := fun _ => True) (okp := fun _ => True) ?hr ?hp (fun _ hk => hk) trivial (Below.refl _ _) (Nat.le_refl _) (by simp) ?_; (case hd => rfl); (case hg => rfl); (case hr => first | (go_simp; done) | (go_simp; rfl)); (case hp => exact (Reps.c2 (show Kd.M k26 _ _ _ (⟨1, 5⟩ : S26) [.int .i64 1, .int .i64 5] from (k26_mkM _ _ _ (⟨1, 5⟩ : S26) )) (Reps.c2 (show Kd.M k26 _ _ _ (⟨3, 8⟩ : S26) [.int .i64 3, .int .i64 8] from (k26_mkM _ _ _ (⟨3, 8⟩ : S26) )) (Reps.none _ _)))); intro v183 w19 ho20 hb hg_ hnew_; clear hg_ hnew_; (first | rw [← Ny182.out] at ho20 | (simp only [Int.reduceToNat] at ho20; rw [← Ny182.out] at ho20)); have n0_ := Aside0.mk (Kd.R_below (by (with_reducible repeat (first | apply Kd.R_alloc | apply Kd.R_drewN | apply Kd.R_drew)); exact HO174.out) hb); have n1_ := Aside0.mk (Kd.R_below (by (with_reducible repeat (first | apply Kd.R_alloc | apply Kd.R_drewN | apply Kd.R_drew)); exact HO177.out) hb); have n2_ := Aside0.mk (Kd.R_below (by (with_reducible repeat (first | apply Kd.R_alloc | apply Kd.R_drewN | apply Kd.R_drew)); exact HO181.out) hb); have n3_ := Aside0.mk (Kd.R_lower ho20 (below_size (by repeat (first | (with_reducible first | exact HB.out | apply below_alloc | apply pw_below_drewN | apply below_drew1) | exact HB.out)))); have n4_ := Aside0.mk (below_step (by repeat (first | (with_reducible first | exact HB.out | apply below_alloc | apply pw_below_drewN | apply below_drew1) | exact HB.out)) hb); clear HO174; clear HO177; clear HO181; clear HB; have HO174 := n0_; have HO177 := n1_; have HO181 := n2_; have HO184 := n3_; have HB := n4_; clear n0_ n1_ n2_ n3_ n4_; clear hb ho20; obtain ⟨Ao21, co21, eo21⟩ := Kd.R_slice HO184.out; subst eo21) | ((with_reducible refine gate_callee (f := 13) rfl ?_); refine goesL_ (some 19) rfl rfl Try.func13 (by kernel_rfl) rfl #[.slice Ao21 y182.length co21] rfl (by (try simp only [List.map_toArray, List.map_cons, List.map_nil]); first | done | rfl | (simp only [List.length_drop, List.length_take]; rfl)) ?_; (with_reducible refine (stats_Cover.calls _ _ y182 t185 _ ?side1 ?side2 A5.out).mono ?_); (case side1 => repeat (first | exact (Kd.R_reads' HO184.out).2.2 | (with_reducible refine Kd.C_alloc ?_ _) | (with_reducible refine Kd.C_drewN ?_ _) | (with_reducible refine Kd.C_drew ?_))); (case side2 => exact (Kd.R_reads' HO184.out).2.1); rintro e w22 ⟨rfl, hb⟩; refine ⟨_, rfl, ?_⟩; have n0_ := Aside0.mk (Kd.R_below (by (with_reducible repeat (first | apply Kd.R_alloc | apply Kd.R_drewN | apply Kd.R_drew)); exact HO174.out) hb); have n1_ := Aside0.mk (Kd.R_below (by (with_reducible repeat (first | apply Kd.R_alloc | apply Kd.R_drewN | apply Kd.R_drew)); exact HO177.out) hb); have n2_ := Aside0.mk (Kd.R_below (by (with_reducible repeat (first | apply Kd.R_alloc | apply Kd.R_drewN | apply Kd.R_drew)); exact HO181.out) hb); have n3_ := Aside0.mk (Kd.R_below (by (with_reducible repeat (first | apply Kd.R_alloc | apply Kd.R_drewN | apply Kd.R_drew)); exact HO184.out) hb); have n4_ := Aside0.mk (below_step (by repeat (first | (with_reducible first | exact HB.out | apply below_alloc | apply pw_below_drewN | apply below_drew1) | exact HB.out)) hb); clear HO174; clear HO177; clear HO181; clear HO184; clear HB; have HO174 := n0_; have HO177 := n1_; have HO181 := n2_; have HO184 := n3_; have HB := n4_; clear n0_ n1_ n2_ n3_ n4_; (try clear hb); (try clear hb2); (try clear hk); (try clear hi)) | ((with_reducible refine gate_dst (N := 26) rfl ?_); (try (refine gate_guard (by rfl) ?_; dsimp only)); refine Kd.R_lit (Kd.int .i64) _ 2 ?hg (N := 26) ?hd (xs := ([2, 2, 9] : List Int)) (inner := [.int .i64 2, .int .i64 2, .int .i64 9]) (ok := fun _ => True) (okp := fun _ => True) ?hr ?hp (fun _ hk => hk) trivial (Below.refl _ _) (Nat.le_refl _) (by simp) ?_; (case hd => rfl); (case hg => rfl); (case hr => first | (go_simp; done) | (go_simp; rfl)); (case hp => exact (Reps.one (show Kd.M (Kd.int .i64) _ _ _ 2 [.int .i64 2] from rfl) (Reps.one (show Kd.M (Kd.int .i64) _ _ _ 2 [.int .i64 2] from rfl) (Reps.one (show Kd.M (Kd.int .i64) _ _ _ 9 [.int .i64 9] from rfl) (Reps.none _ _))))); intro v187 w23 ho24 hb hg_ hnew_; clear hg_ hnew_; (first | rw [← Ny186.out] at ho24 | (simp only [Int.reduceToNat] at ho24; rw [← Ny186.out] at ho24)); have n0_ := Aside0.mk (Kd.R_below (by (with_reducible repeat (first | apply Kd.R_alloc | apply Kd.R_drewN | apply Kd.R_drew)); exact HO174.out) hb); have n1_ := Aside0.mk (Kd.R_below (by (with_reducible repeat (first | apply Kd.R_alloc | apply Kd.R_drewN | apply Kd.R_drew)); exact HO177.out) hb); have n2_ := Aside0.mk (Kd.R_elder' (by (with_reducible repeat (first | apply Kd.R_alloc | apply Kd.R_drewN | apply Kd.R_drew)); exact HO181.out) (Kd.R_base ho24) hb); have n3_ := Aside0.mk (Kd.R_below (by (with_reducible repeat (first | apply Kd.R_alloc | apply Kd.R_drewN | apply Kd.R_drew)); exact HO184.out) hb); have n4_ := Aside0.mk (Kd.R_lower (Kd.R_new' ho24 (Kd.R_lt (by (with_reducible repeat (first | apply Kd.R_alloc | apply Kd.R_drewN | apply Kd.R_drew)); exact HO181.out))) (below_size (by repeat (first | (with_reducible first | exact HB.out | apply below_alloc | apply pw_below_drewN | apply below_drew1) | exact HB.out)))); have n5_ := Aside0.mk (below_step (by repeat (first | (with_reducible first | exact HB.out | apply below_alloc | apply pw_below_drewN | apply below_drew1) | exact HB.out)) hb); clear HO174; clear HO177; clear HO181; clear HO184; clear HB; have HO174 := n0_; have HO177 := n1_; have HO181 := n2_; have HO184 := n3_; have HO188 := n4_; have HB := n5_; clear n0_ n1_ n2_ n3_ n4_ n5_; clear hb ho24; obtain ⟨Ao25, co25, eo25⟩ := Kd.R_slice HO181.out; subst eo25; obtain ⟨Ao26, co26, eo26⟩ := Kd.R_slice HO188.out; subst eo26) | (go_at_call 19; (with_reducible refine (merkhetref15_Same.calls k _ _ t178 _ _ y186 t189 _ ?side1 ?side2 ?side3 ?side4 A8.out).mono ?_); (case side1 => repeat (first | exact (Kd.R_reads' HO181.out).2.2 | (with_reducible refine Kd.C_alloc ?_ _) | (with_reducible refine Kd.C_drewN ?_ _) | (with_reducible refine Kd.C_drew ?_))); (case side2 => exact (Kd.R_reads' HO181.out).2.1); (case side3 => repeat (first | exact (Kd.R_reads' HO188.out).2.2 | (with_reducible refine Kd.C_alloc ?_ _) | (with_reducible refine Kd.C_drewN ?_ _) | (with_reducible refine Kd.C_drew ?_))); (case side4 => exact (Kd.R_reads' HO188.out).2.1); rintro e w' ⟨rfl, ⟨nd, rfl⟩⟩))
      go_ret
      exact ⟨by first | rfl | (simp [errW_none, errW_some] <;> rfl) | (simp [*, errW_none, errW_some] <;> rfl), by repeat (first | (with_reducible first | exact HB.out | apply below_alloc | apply pw_below_drewN | apply below_drew1) | exact HB.out)⟩
    · replace c7 := Bool.eq_false_iff.mpr c7
      subst c7
      have H1 : (some false) = some r := by rw [if_neg (show ¬ (false = true) by decide)] at H; exact H
      clear H
      have H := H1
      clear H1
      obtain rfl := Option.some.inj H
      go_enter Try.func12, Try.ntmps12
      go_wp2_with (first | ((with_reducible refine Go.Proofs.YtmfdhcgdibefiaaW.FunV.gate_value rfl ?_); refine Go.Proofs.YtmfdhcgdibefiaaW.FunV.goesV_ (some 6) rfl rfl Try.func35 (by kernel_rfl) rfl #[.int .u64 1, .int .i64 0, .int .i64 10] rfl rfl (by (try simp only [List.map_toArray, List.map_cons, List.map_nil]); first | done | rfl | (simp only [List.length_drop, List.length_take]; rfl)) ?_; (with_reducible refine (merkhetlaw27_fixed_1.calls 1 0 10 t148 t149 t150 t151 t152 t153 t154 t155 _ A1.out).mono ?_); rintro e w27 ⟨rfl, hb⟩; refine ⟨_, rfl, ?_⟩; have n0_ := Aside0.mk (below_step (by repeat (first | (with_reducible first | exact HB.out | apply below_alloc | apply pw_below_drewN | apply below_drew1) | exact HB.out)) hb); clear HB; have HB := n0_; clear n0_; (try clear hb); (try clear hb2); (try clear hk); (try clear hi)) | ((with_reducible refine Go.Proofs.YtmfdhcgdibefiaaW.FunV.gate_value rfl ?_); refine Go.Proofs.YtmfdhcgdibefiaaW.FunV.goesV_ (some 8) rfl rfl Try.func35 (by kernel_rfl) rfl #[.int .u64 2, .int .i64 2, .int .i64 2] rfl rfl (by (try simp only [List.map_toArray, List.map_cons, List.map_nil]); first | done | rfl | (simp only [List.length_drop, List.length_take]; rfl)) ?_; (with_reducible refine (merkhetlaw27_fixed_1.calls 2 2 2 t156 t157 t158 t159 t160 t161 t162 t163 _ A2.out).mono ?_); rintro e w28 ⟨rfl, hb⟩; refine ⟨_, rfl, ?_⟩; have n0_ := Aside0.mk (below_step (by repeat (first | (with_reducible first | exact HB.out | apply below_alloc | apply pw_below_drewN | apply below_drew1) | exact HB.out)) hb); clear HB; have HB := n0_; clear n0_; (try clear hb); (try clear hb2); (try clear hk); (try clear hi)) | ((with_reducible refine Go.Proofs.YtmfdhcgdibefiaaW.FunV.gate_value rfl ?_); refine Go.Proofs.YtmfdhcgdibefiaaW.FunV.goesV_ (some 10) rfl rfl Try.func35 (by kernel_rfl) rfl #[.int .u64 3, .int .i64 3, .int .i64 9] rfl rfl (by (try simp only [List.map_toArray, List.map_cons, List.map_nil]); first | done | rfl | (simp only [List.length_drop, List.length_take]; rfl)) ?_; (with_reducible refine (merkhetlaw27_fixed_1.calls 3 3 9 t164 t165 t166 t167 t168 t169 t170 t171 _ A3.out).mono ?_); rintro e w29 ⟨rfl, hb⟩; refine ⟨_, rfl, ?_⟩; have n0_ := Aside0.mk (below_step (by repeat (first | (with_reducible first | exact HB.out | apply below_alloc | apply pw_below_drewN | apply below_drew1) | exact HB.out)) hb); clear HB; have HB := n0_; clear n0_; (try clear hb); (try clear hb2); (try clear hk); (try clear hi)) | ((with_reducible refine gate_dst (N := 11) rfl ?_); (try (refine gate_guard (by rfl) ?_; dsimp only)); refine Kd.R_lit k37 _ 37 ?hg (N := 11) ?hd (xs := ([(⟨t148, t149, t150, t151, t152, t153, t154, t155⟩ : S37), (⟨t156, t157, t158, t159, t160, t161, t162, t163⟩ : S37), (⟨t164, t165, t166, t167, t168, t169, t170, t171⟩ : S37)] : List (S37))) (inner := [.int .u64 t148, .int .u64 t149, .int .u64 t150, .int .u8 t151, .string t152, .string t153, .int .i64 t154, .int .i64 t155, .int .u64 t156, .int .u64 t157, .int .u64 t158, .int .u8 t159, .string t160, .string t161, .int .i64 t162, .int .i64 t163, .int .u64 t164, .int .u64 t165, .int .u64 t166, .int .u8 t167, .string t168, .string t169, .int .i64 t170, .int .i64 t171]) (ok := fun _ => True) (okp := fun _ => True) ?hr ?hp (fun _ hk => hk) trivial (Below.refl _ _) (Nat.le_refl _) (by simp) ?_; (case hd => rfl); (case hg => rfl); (case hr => first | (go_simp; done) | (go_simp; rfl)); (case hp => exact (Reps.c8 (show Kd.M k37 _ _ _ (⟨t148, t149, t150, t151, t152, t153, t154, t155⟩ : S37) [.int .u64 t148, .int .u64 t149, .int .u64 t150, .int .u8 t151, .string t152, .string t153, .int .i64 t154, .int .i64 t155] from (k37_mkM _ _ _ (⟨t148, t149, t150, t151, t152, t153, t154, t155⟩ : S37) )) (Reps.c8 (show Kd.M k37 _ _ _ (⟨t156, t157, t158, t159, t160, t161, t162, t163⟩ : S37) [.int .u64 t156, .int .u64 t157, .int .u64 t158, .int .u8 t159, .string t160, .string t161, .int .i64 t162, .int .i64 t163] from (k37_mkM _ _ _ (⟨t156, t157, t158, t159, t160, t161, t162, t163⟩ : S37) )) (Reps.c8 (show Kd.M k37 _ _ _ (⟨t164, t165, t166, t167, t168, t169, t170, t171⟩ : S37) [.int .u64 t164, .int .u64 t165, .int .u64 t166, .int .u8 t167, .string t168, .string t169, .int .i64 t170, .int .i64 t171] from (k37_mkM _ _ _ (⟨t164, t165, t166, t167, t168, t169, t170, t171⟩ : S37) )) (Reps.none _ _))))); intro v173 w30 ho31 hb hg_ hnew_; clear hg_ hnew_; (first | rw [← Ny172.out] at ho31 | (simp only [Int.reduceToNat] at ho31; rw [← Ny172.out] at ho31)); have n0_ := Aside0.mk (Kd.R_lower ho31 (below_size (by repeat (first | (with_reducible first | exact HB.out | apply below_alloc | apply pw_below_drewN | apply below_drew1) | exact HB.out)))); have n1_ := Aside0.mk (below_step (by repeat (first | (with_reducible first | exact HB.out | apply below_alloc | apply pw_below_drewN | apply below_drew1) | exact HB.out)) hb); clear HB; have HO174 := n0_; have HB := n1_; clear n0_ n1_; clear hb ho31) | ((with_reducible refine gate_dst (N := 12) rfl ?_); (try (refine gate_guard (by rfl) ?_; dsimp only)); refine Kd.R_lit (Kd.int .i64) _ 3 ?hg (N := 12) ?hd (xs := ([(-1), 0, 0] : List Int)) (inner := [.int .i64 (-1), .int .i64 0, .int .i64 0]) (ok := fun _ => True) (okp := fun _ => True) ?hr ?hp (fun _ hk => hk) trivial (Below.refl _ _) (Nat.le_refl _) (by simp) ?_; (case hd => rfl); (case hg => rfl); (case hr => first | (go_simp; done) | (go_simp; rfl)); (case hp => exact (Reps.one (show Kd.M (Kd.int .i64) _ _ _ (-1) [.int .i64 (-1)] from rfl) (Reps.one (show Kd.M (Kd.int .i64) _ _ _ 0 [.int .i64 0] from rfl) (Reps.one (show Kd.M (Kd.int .i64) _ _ _ 0 [.int .i64 0] from rfl) (Reps.none _ _))))); intro v176 w32 ho33 hb hg_ hnew_; clear hg_ hnew_; (first | rw [← Ny175.out] at ho33 | (simp only [Int.reduceToNat] at ho33; rw [← Ny175.out] at ho33)); have n0_ := Aside0.mk (Kd.R_below (by (with_reducible repeat (first | apply Kd.R_alloc | apply Kd.R_drewN | apply Kd.R_drew)); exact HO174.out) hb); have n1_ := Aside0.mk (Kd.R_lower ho33 (below_size (by repeat (first | (with_reducible first | exact HB.out | apply below_alloc | apply pw_below_drewN | apply below_drew1) | exact HB.out)))); have n2_ := Aside0.mk (below_step (by repeat (first | (with_reducible first | exact HB.out | apply below_alloc | apply pw_below_drewN | apply below_drew1) | exact HB.out)) hb); clear HO174; clear HB; have HO174 := n0_; have HO177 := n1_; have HB := n2_; clear n0_ n1_ n2_; clear hb ho33; obtain ⟨Ao34, co34, eo34⟩ := Kd.R_slice HO174.out; subst eo34; obtain ⟨Ao35, co35, eo35⟩ := Kd.R_slice HO177.out; subst eo35) | ((with_reducible refine gate_callee (f := 16) rfl ?_); refine goesL_ (some 13) rfl rfl Try.func16 (by kernel_rfl) rfl #[.slice Ao34 y172.length co34, .slice Ao35 y175.length co35] rfl (by (try simp only [List.map_toArray, List.map_cons, List.map_nil]); first | done | rfl | (simp only [List.length_drop, List.length_take]; rfl)) ?_; (with_reducible refine (stats_Own.calls k _ _ y172 _ _ y175 t178 false _ ?side1 ?side2 ?side3 ?side4 A4.out).mono ?_); (case side1 => repeat (first | exact (Kd.R_reads' HO174.out).2.2 | (with_reducible refine Kd.C_alloc ?_ _) | (with_reducible refine Kd.C_drewN ?_ _) | (with_reducible refine Kd.C_drew ?_))); (case side2 => exact (Kd.R_reads' HO174.out).2.1); (case side3 => repeat (first | exact (Kd.R_reads' HO177.out).2.2 | (with_reducible refine Kd.C_alloc ?_ _) | (with_reducible refine Kd.C_drewN ?_ _) | (with_reducible refine Kd.C_drew ?_))); (case side4 => exact (Kd.R_reads' HO177.out).2.1); rintro e w36 ⟨v180, rfl, ho0, hb⟩; refine ⟨_, rfl, ?_⟩; have n0_ := Aside0.mk (Kd.R_below (by (with_reducible repeat (first | apply Kd.R_alloc | apply Kd.R_drewN | apply Kd.R_drew)); exact HO174.out) hb); have n1_ := Aside0.mk (Kd.R_below (by (with_reducible repeat (first | apply Kd.R_alloc | apply Kd.R_drewN | apply Kd.R_drew)); exact HO177.out) hb); have n2_ := Aside0.mk (Kd.R_lower ho0 (below_size (by repeat (first | (with_reducible first | exact HB.out | apply below_alloc | apply pw_below_drewN | apply below_drew1) | exact HB.out)))); have n3_ := Aside0.mk (below_step (by repeat (first | (with_reducible first | exact HB.out | apply below_alloc | apply pw_below_drewN | apply below_drew1) | exact HB.out)) hb); clear HO174; clear HO177; clear HB; have HO174 := n0_; have HO177 := n1_; have HO181 := n2_; have HB := n3_; clear n0_ n1_ n2_ n3_; (try clear hb); (try clear hb2); (try clear hk); (try clear hi); (try clear ho0)) | ((with_reducible refine gate_dst (N := 18) rfl ?_); (try (refine gate_guard (by rfl) ?_; dsimp only)); refine Kd.R_lit k26 _ 26 ?hg (N := 18) ?hd (xs := ([(⟨1, 5⟩ : S26), (⟨3, 8⟩ : S26)] : List (S26))) (inner := [.int .i64 1, .int .i64 5, .int .i64 3, .int .i64 8]) (ok := fun _ => True) (okp := fun _ => True) ?hr ?hp (fun _ hk => hk) trivial (Below.refl _ _) (Nat.le_refl _) (by simp) ?_; (case hd => rfl); (case hg => rfl); (case hr => first | (go_simp; done) | (go_simp; rfl)); (case hp => exact (Reps.c2 (show Kd.M k26 _ _ _ (⟨1, 5⟩ : S26) [.int .i64 1, .int .i64 5] from (k26_mkM _ _ _ (⟨1, 5⟩ : S26) )) (Reps.c2 (show Kd.M k26 _ _ _ (⟨3, 8⟩ : S26) [.int .i64 3, .int .i64 8] from (k26_mkM _ _ _ (⟨3, 8⟩ : S26) )) (Reps.none _ _)))); intro v183 w37 ho38 hb hg_ hnew_; clear hg_ hnew_; (first | rw [← Ny182.out] at ho38 | (simp only [Int.reduceToNat] at ho38; rw [← Ny182.out] at ho38)); have n0_ := Aside0.mk (Kd.R_below (by (with_reducible repeat (first | apply Kd.R_alloc | apply Kd.R_drewN | apply Kd.R_drew)); exact HO174.out) hb); have n1_ := Aside0.mk (Kd.R_below (by (with_reducible repeat (first | apply Kd.R_alloc | apply Kd.R_drewN | apply Kd.R_drew)); exact HO177.out) hb); have n2_ := Aside0.mk (Kd.R_below (by (with_reducible repeat (first | apply Kd.R_alloc | apply Kd.R_drewN | apply Kd.R_drew)); exact HO181.out) hb); have n3_ := Aside0.mk (Kd.R_lower ho38 (below_size (by repeat (first | (with_reducible first | exact HB.out | apply below_alloc | apply pw_below_drewN | apply below_drew1) | exact HB.out)))); have n4_ := Aside0.mk (below_step (by repeat (first | (with_reducible first | exact HB.out | apply below_alloc | apply pw_below_drewN | apply below_drew1) | exact HB.out)) hb); clear HO174; clear HO177; clear HO181; clear HB; have HO174 := n0_; have HO177 := n1_; have HO181 := n2_; have HO184 := n3_; have HB := n4_; clear n0_ n1_ n2_ n3_ n4_; clear hb ho38; obtain ⟨Ao39, co39, eo39⟩ := Kd.R_slice HO184.out; subst eo39) | ((with_reducible refine gate_callee (f := 13) rfl ?_); refine goesL_ (some 19) rfl rfl Try.func13 (by kernel_rfl) rfl #[.slice Ao39 y182.length co39] rfl (by (try simp only [List.map_toArray, List.map_cons, List.map_nil]); first | done | rfl | (simp only [List.length_drop, List.length_take]; rfl)) ?_; (with_reducible refine (stats_Cover.calls _ _ y182 t185 _ ?side1 ?side2 A5.out).mono ?_); (case side1 => repeat (first | exact (Kd.R_reads' HO184.out).2.2 | (with_reducible refine Kd.C_alloc ?_ _) | (with_reducible refine Kd.C_drewN ?_ _) | (with_reducible refine Kd.C_drew ?_))); (case side2 => exact (Kd.R_reads' HO184.out).2.1); rintro e w40 ⟨rfl, hb⟩; refine ⟨_, rfl, ?_⟩; have n0_ := Aside0.mk (Kd.R_below (by (with_reducible repeat (first | apply Kd.R_alloc | apply Kd.R_drewN | apply Kd.R_drew)); exact HO174.out) hb); have n1_ := Aside0.mk (Kd.R_below (by (with_reducible repeat (first | apply Kd.R_alloc | apply Kd.R_drewN | apply Kd.R_drew)); exact HO177.out) hb); have n2_ := Aside0.mk (Kd.R_below (by (with_reducible repeat (first | apply Kd.R_alloc | apply Kd.R_drewN | apply Kd.R_drew)); exact HO181.out) hb); have n3_ := Aside0.mk (Kd.R_below (by (with_reducible repeat (first | apply Kd.R_alloc | apply Kd.R_drewN | apply Kd.R_drew)); exact HO184.out) hb); have n4_ := Aside0.mk (below_step (by repeat (first | (with_reducible first | exact HB.out | apply below_alloc | apply pw_below_drewN | apply below_drew1) | exact HB.out)) hb); clear HO174; clear HO177; clear HO181; clear HO184; clear HB; have HO174 := n0_; have HO177 := n1_; have HO181 := n2_; have HO184 := n3_; have HB := n4_; clear n0_ n1_ n2_ n3_ n4_; (try clear hb); (try clear hb2); (try clear hk); (try clear hi)))
      go_ret
      exact ⟨by first | rfl | (simp [errW_none, errW_some] <;> rfl) | (simp [*, errW_none, errW_some] <;> rfl), by repeat (first | (with_reducible first | exact HB.out | apply below_alloc | apply pw_below_drewN | apply below_drew1) | exact HB.out)⟩
  · rw [if_neg c6] at H
    have c6b0 : (t185 == 7) = false := beq_eq_false_iff_ne.mpr c6
    have c6b1 : (t185 != 7) = true := bne_iff_ne.mpr c6
    obtain rfl := Option.some.inj H
    go_enter Try.func12, Try.ntmps12
    go_wp2_with (first | ((with_reducible refine Go.Proofs.YtmfdhcgdibefiaaW.FunV.gate_value rfl ?_); refine Go.Proofs.YtmfdhcgdibefiaaW.FunV.goesV_ (some 6) rfl rfl Try.func35 (by kernel_rfl) rfl #[.int .u64 1, .int .i64 0, .int .i64 10] rfl rfl (by (try simp only [List.map_toArray, List.map_cons, List.map_nil]); first | done | rfl | (simp only [List.length_drop, List.length_take]; rfl)) ?_; (with_reducible refine (merkhetlaw27_fixed_1.calls 1 0 10 t148 t149 t150 t151 t152 t153 t154 t155 _ A1.out).mono ?_); rintro e w41 ⟨rfl, hb⟩; refine ⟨_, rfl, ?_⟩; have n0_ := Aside0.mk (below_step (by repeat (first | (with_reducible first | exact HB.out | apply below_alloc | apply pw_below_drewN | apply below_drew1) | exact HB.out)) hb); clear HB; have HB := n0_; clear n0_; (try clear hb); (try clear hb2); (try clear hk); (try clear hi)) | ((with_reducible refine Go.Proofs.YtmfdhcgdibefiaaW.FunV.gate_value rfl ?_); refine Go.Proofs.YtmfdhcgdibefiaaW.FunV.goesV_ (some 8) rfl rfl Try.func35 (by kernel_rfl) rfl #[.int .u64 2, .int .i64 2, .int .i64 2] rfl rfl (by (try simp only [List.map_toArray, List.map_cons, List.map_nil]); first | done | rfl | (simp only [List.length_drop, List.length_take]; rfl)) ?_; (with_reducible refine (merkhetlaw27_fixed_1.calls 2 2 2 t156 t157 t158 t159 t160 t161 t162 t163 _ A2.out).mono ?_); rintro e w42 ⟨rfl, hb⟩; refine ⟨_, rfl, ?_⟩; have n0_ := Aside0.mk (below_step (by repeat (first | (with_reducible first | exact HB.out | apply below_alloc | apply pw_below_drewN | apply below_drew1) | exact HB.out)) hb); clear HB; have HB := n0_; clear n0_; (try clear hb); (try clear hb2); (try clear hk); (try clear hi)) | ((with_reducible refine Go.Proofs.YtmfdhcgdibefiaaW.FunV.gate_value rfl ?_); refine Go.Proofs.YtmfdhcgdibefiaaW.FunV.goesV_ (some 10) rfl rfl Try.func35 (by kernel_rfl) rfl #[.int .u64 3, .int .i64 3, .int .i64 9] rfl rfl (by (try simp only [List.map_toArray, List.map_cons, List.map_nil]); first | done | rfl | (simp only [List.length_drop, List.length_take]; rfl)) ?_; (with_reducible refine (merkhetlaw27_fixed_1.calls 3 3 9 t164 t165 t166 t167 t168 t169 t170 t171 _ A3.out).mono ?_); rintro e w43 ⟨rfl, hb⟩; refine ⟨_, rfl, ?_⟩; have n0_ := Aside0.mk (below_step (by repeat (first | (with_reducible first | exact HB.out | apply below_alloc | apply pw_below_drewN | apply below_drew1) | exact HB.out)) hb); clear HB; have HB := n0_; clear n0_; (try clear hb); (try clear hb2); (try clear hk); (try clear hi)) | ((with_reducible refine gate_dst (N := 11) rfl ?_); (try (refine gate_guard (by rfl) ?_; dsimp only)); refine Kd.R_lit k37 _ 37 ?hg (N := 11) ?hd (xs := ([(⟨t148, t149, t150, t151, t152, t153, t154, t155⟩ : S37), (⟨t156, t157, t158, t159, t160, t161, t162, t163⟩ : S37), (⟨t164, t165, t166, t167, t168, t169, t170, t171⟩ : S37)] : List (S37))) (inner := [.int .u64 t148, .int .u64 t149, .int .u64 t150, .int .u8 t151, .string t152, .string t153, .int .i64 t154, .int .i64 t155, .int .u64 t156, .int .u64 t157, .int .u64 t158, .int .u8 t159, .string t160, .string t161, .int .i64 t162, .int .i64 t163, .int .u64 t164, .int .u64 t165, .int .u64 t166, .int .u8 t167, .string t168, .string t169, .int .i64 t170, .int .i64 t171]) (ok := fun _ => True) (okp := fun _ => True) ?hr ?hp (fun _ hk => hk) trivial (Below.refl _ _) (Nat.le_refl _) (by simp) ?_; (case hd => rfl); (case hg => rfl); (case hr => first | (go_simp; done) | (go_simp; rfl)); (case hp => exact (Reps.c8 (show Kd.M k37 _ _ _ (⟨t148, t149, t150, t151, t152, t153, t154, t155⟩ : S37) [.int .u64 t148, .int .u64 t149, .int .u64 t150, .int .u8 t151, .string t152, .string t153, .int .i64 t154, .int .i64 t155] from (k37_mkM _ _ _ (⟨t148, t149, t150, t151, t152, t153, t154, t155⟩ : S37) )) (Reps.c8 (show Kd.M k37 _ _ _ (⟨t156, t157, t158, t159, t160, t161, t162, t163⟩ : S37) [.int .u64 t156, .int .u64 t157, .int .u64 t158, .int .u8 t159, .string t160, .string t161, .int .i64 t162, .int .i64 t163] from (k37_mkM _ _ _ (⟨t156, t157, t158, t159, t160, t161, t162, t163⟩ : S37) )) (Reps.c8 (show Kd.M k37 _ _ _ (⟨t164, t165, t166, t167, t168, t169, t170, t171⟩ : S37) [.int .u64 t164, .int .u64 t165, .int .u64 t166, .int .u8 t167, .string t168, .string t169, .int .i64 t170, .int .i64 t171] from (k37_mkM _ _ _ (⟨t164, t165, t166, t167, t168, t169, t170, t171⟩ : S37) )) (Reps.none _ _))))); intro v173 w44 ho45 hb hg_ hnew_; clear hg_ hnew_; (first | rw [← Ny172.out] at ho45 | (simp only [Int.reduceToNat] at ho45; rw [← Ny172.out] at ho45)); have n0_ := Aside0.mk (Kd.R_lower ho45 (below_size (by repeat (first | (with_reducible first | exact HB.out | apply below_alloc | apply pw_below_drewN | apply below_drew1) | exact HB.out)))); have n1_ := Aside0.mk (below_step (by repeat (first | (with_reducible first | exact HB.out | apply below_alloc | apply pw_below_drewN | apply below_drew1) | exact HB.out)) hb); clear HB; have HO174 := n0_; have HB := n1_; clear n0_ n1_; clear hb ho45) | ((with_reducible refine gate_dst (N := 12) rfl ?_); (try (refine gate_guard (by rfl) ?_; dsimp only)); refine Kd.R_lit (Kd.int .i64) _ 3 ?hg (N := 12) ?hd (xs := ([(-1), 0, 0] : List Int)) (inner := [.int .i64 (-1), .int .i64 0, .int .i64 0]) (ok := fun _ => True) (okp := fun _ => True) ?hr ?hp (fun _ hk => hk) trivial (Below.refl _ _) (Nat.le_refl _) (by simp) ?_; (case hd => rfl); (case hg => rfl); (case hr => first | (go_simp; done) | (go_simp; rfl)); (case hp => exact (Reps.one (show Kd.M (Kd.int .i64) _ _ _ (-1) [.int .i64 (-1)] from rfl) (Reps.one (show Kd.M (Kd.int .i64) _ _ _ 0 [.int .i64 0] from rfl) (Reps.one (show Kd.M (Kd.int .i64) _ _ _ 0 [.int .i64 0] from rfl) (Reps.none _ _))))); intro v176 w46 ho47 hb hg_ hnew_; clear hg_ hnew_; (first | rw [← Ny175.out] at ho47 | (simp only [Int.reduceToNat] at ho47; rw [← Ny175.out] at ho47)); have n0_ := Aside0.mk (Kd.R_below (by (with_reducible repeat (first | apply Kd.R_alloc | apply Kd.R_drewN | apply Kd.R_drew)); exact HO174.out) hb); have n1_ := Aside0.mk (Kd.R_lower ho47 (below_size (by repeat (first | (with_reducible first | exact HB.out | apply below_alloc | apply pw_below_drewN | apply below_drew1) | exact HB.out)))); have n2_ := Aside0.mk (below_step (by repeat (first | (with_reducible first | exact HB.out | apply below_alloc | apply pw_below_drewN | apply below_drew1) | exact HB.out)) hb); clear HO174; clear HB; have HO174 := n0_; have HO177 := n1_; have HB := n2_; clear n0_ n1_ n2_; clear hb ho47; obtain ⟨Ao48, co48, eo48⟩ := Kd.R_slice HO174.out; subst eo48; obtain ⟨Ao49, co49, eo49⟩ := Kd.R_slice HO177.out; subst eo49) | ((with_reducible refine gate_callee (f := 16) rfl ?_); refine goesL_ (some 13) rfl rfl Try.func16 (by kernel_rfl) rfl #[.slice Ao48 y172.length co48, .slice Ao49 y175.length co49] rfl (by (try simp only [List.map_toArray, List.map_cons, List.map_nil]); first | done | rfl | (simp only [List.length_drop, List.length_take]; rfl)) ?_; (with_reducible refine (stats_Own.calls k _ _ y172 _ _ y175 t178 t179 _ ?side1 ?side2 ?side3 ?side4 A4.out).mono ?_); (case side1 => repeat (first | exact (Kd.R_reads' HO174.out).2.2 | (with_reducible refine Kd.C_alloc ?_ _) | (with_reducible refine Kd.C_drewN ?_ _) | (with_reducible refine Kd.C_drew ?_))); (case side2 => exact (Kd.R_reads' HO174.out).2.1); (case side3 => repeat (first | exact (Kd.R_reads' HO177.out).2.2 | (with_reducible refine Kd.C_alloc ?_ _) | (with_reducible refine Kd.C_drewN ?_ _) | (with_reducible refine Kd.C_drew ?_))); (case side4 => exact (Kd.R_reads' HO177.out).2.1); rintro e w50 ⟨v180, rfl, ho0, hb⟩; refine ⟨_, rfl, ?_⟩; have n0_ := Aside0.mk (Kd.R_below (by (with_reducible repeat (first | apply Kd.R_alloc | apply Kd.R_drewN | apply Kd.R_drew)); exact HO174.out) hb); have n1_ := Aside0.mk (Kd.R_below (by (with_reducible repeat (first | apply Kd.R_alloc | apply Kd.R_drewN | apply Kd.R_drew)); exact HO177.out) hb); have n2_ := Aside0.mk (Kd.R_lower ho0 (below_size (by repeat (first | (with_reducible first | exact HB.out | apply below_alloc | apply pw_below_drewN | apply below_drew1) | exact HB.out)))); have n3_ := Aside0.mk (below_step (by repeat (first | (with_reducible first | exact HB.out | apply below_alloc | apply pw_below_drewN | apply below_drew1) | exact HB.out)) hb); clear HO174; clear HO177; clear HB; have HO174 := n0_; have HO177 := n1_; have HO181 := n2_; have HB := n3_; clear n0_ n1_ n2_ n3_; (try clear hb); (try clear hb2); (try clear hk); (try clear hi); (try clear ho0)) | ((with_reducible refine gate_dst (N := 18) rfl ?_); (try (refine gate_guard (by rfl) ?_; dsimp only)); refine Kd.R_lit k26 _ 26 ?hg (N := 18) ?hd (xs := ([(⟨1, 5⟩ : S26), (⟨3, 8⟩ : S26)] : List (S26))) (inner := [.int .i64 1, .int .i64 5, .int .i64 3, .int .i64 8]) (ok := fun _ => True) (okp := fun _ => True) ?hr ?hp (fun _ hk => hk) trivial (Below.refl _ _) (Nat.le_refl _) (by simp) ?_; (case hd => rfl); (case hg => rfl); (case hr => first | (go_simp; done) | (go_simp; rfl)); (case hp => exact (Reps.c2 (show Kd.M k26 _ _ _ (⟨1, 5⟩ : S26) [.int .i64 1, .int .i64 5] from (k26_mkM _ _ _ (⟨1, 5⟩ : S26) )) (Reps.c2 (show Kd.M k26 _ _ _ (⟨3, 8⟩ : S26) [.int .i64 3, .int .i64 8] from (k26_mkM _ _ _ (⟨3, 8⟩ : S26) )) (Reps.none _ _)))); intro v183 w51 ho52 hb hg_ hnew_; clear hg_ hnew_; (first | rw [← Ny182.out] at ho52 | (simp only [Int.reduceToNat] at ho52; rw [← Ny182.out] at ho52)); have n0_ := Aside0.mk (Kd.R_below (by (with_reducible repeat (first | apply Kd.R_alloc | apply Kd.R_drewN | apply Kd.R_drew)); exact HO174.out) hb); have n1_ := Aside0.mk (Kd.R_below (by (with_reducible repeat (first | apply Kd.R_alloc | apply Kd.R_drewN | apply Kd.R_drew)); exact HO177.out) hb); have n2_ := Aside0.mk (Kd.R_below (by (with_reducible repeat (first | apply Kd.R_alloc | apply Kd.R_drewN | apply Kd.R_drew)); exact HO181.out) hb); have n3_ := Aside0.mk (Kd.R_lower ho52 (below_size (by repeat (first | (with_reducible first | exact HB.out | apply below_alloc | apply pw_below_drewN | apply below_drew1) | exact HB.out)))); have n4_ := Aside0.mk (below_step (by repeat (first | (with_reducible first | exact HB.out | apply below_alloc | apply pw_below_drewN | apply below_drew1) | exact HB.out)) hb); clear HO174; clear HO177; clear HO181; clear HB; have HO174 := n0_; have HO177 := n1_; have HO181 := n2_; have HO184 := n3_; have HB := n4_; clear n0_ n1_ n2_ n3_ n4_; clear hb ho52; obtain ⟨Ao53, co53, eo53⟩ := Kd.R_slice HO184.out; subst eo53) | ((with_reducible refine gate_callee (f := 13) rfl ?_); refine goesL_ (some 19) rfl rfl Try.func13 (by kernel_rfl) rfl #[.slice Ao53 y182.length co53] rfl (by (try simp only [List.map_toArray, List.map_cons, List.map_nil]); first | done | rfl | (simp only [List.length_drop, List.length_take]; rfl)) ?_; (with_reducible refine (stats_Cover.calls _ _ y182 t185 _ ?side1 ?side2 A5.out).mono ?_); (case side1 => repeat (first | exact (Kd.R_reads' HO184.out).2.2 | (with_reducible refine Kd.C_alloc ?_ _) | (with_reducible refine Kd.C_drewN ?_ _) | (with_reducible refine Kd.C_drew ?_))); (case side2 => exact (Kd.R_reads' HO184.out).2.1); rintro e w54 ⟨rfl, hb⟩; refine ⟨_, rfl, ?_⟩; have n0_ := Aside0.mk (Kd.R_below (by (with_reducible repeat (first | apply Kd.R_alloc | apply Kd.R_drewN | apply Kd.R_drew)); exact HO174.out) hb); have n1_ := Aside0.mk (Kd.R_below (by (with_reducible repeat (first | apply Kd.R_alloc | apply Kd.R_drewN | apply Kd.R_drew)); exact HO177.out) hb); have n2_ := Aside0.mk (Kd.R_below (by (with_reducible repeat (first | apply Kd.R_alloc | apply Kd.R_drewN | apply Kd.R_drew)); exact HO181.out) hb); have n3_ := Aside0.mk (Kd.R_below (by (with_reducible repeat (first | apply Kd.R_alloc | apply Kd.R_drewN | apply Kd.R_drew)); exact HO184.out) hb); have n4_ := Aside0.mk (below_step (by repeat (first | (with_reducible first | exact HB.out | apply below_alloc | apply pw_below_drewN | apply below_drew1) | exact HB.out)) hb); clear HO174; clear HO177; clear HO181; clear HO184; clear HB; have HO174 := n0_; have HO177 := n1_; have HO181 := n2_; have HO184 := n3_; have HB := n4_; clear n0_ n1_ n2_ n3_ n4_; (try clear hb); (try clear hb2); (try clear hk); (try clear hi)))
    go_ret
    exact ⟨by first | rfl | (simp [errW_none, errW_some] <;> rfl) | (simp [*, errW_none, errW_some] <;> rfl), by repeat (first | (with_reducible first | exact HB.out | apply below_alloc | apply pw_below_drewN | apply below_drew1) | exact HB.out)⟩

end Go.Proofs.Ytmfdhcgdibefiaa.R

