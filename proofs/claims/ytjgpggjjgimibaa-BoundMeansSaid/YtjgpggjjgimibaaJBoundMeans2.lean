/- Texts joined by wip/tools/merge.py: Qx5 ParR PairR SpanT. -/
import Derived.Test.YtjgpggjjgimibaaJBoundMeans0
import Derived.Test.YtjgpggjjgimibaaJBoundMeans1
-- Written by wip/tools/gp.py, a program of this session round the kit's printer. Lean checks it.
namespace Go.Proofs.Ytjgpggjjgimibaa.Q
open Go.RowKit Go.Proofs.YtjgpggjjgimibaaW.PrintWords Go.Proofs.YtjgpggjjgimibaaW.PrintLast Go.Proofs.YtjgpggjjgimibaaW.PrintMore
attribute [local go_sem] max2_int min2_int max_two min_two max_three min_three max_four min_four   -- for this text's walks alone
set_option linter.unusedVariables false
set_option linter.unusedSimpArgs false

/-! ### merkhetref10_Of: function 14 -/
mutual
def merkhetref10_Of.l0 : Nat → List (S42) → List Int → Int → Option (List Int)
  | 0, _, _, _ => none
  | k + 1, x0, x3, x4 => if x4 < (x0.length : Int) then (merkhetref10_Of.l1 k x0 x3 x4 (-1) (wrap64 ((x0.length : Int) - 1))) else (merkhetref10_Of.l2 k x0 x3 (([] : List Int)) 0)
def merkhetref10_Of.l1 : Nat → List (S42) → List Int → Int → Int → Int → Option (List Int)
  | 0, _, _, _, _, _ => none
  | k + 1, x0, x3, x4, x5, x6 => if x6 ≥ 0 then (if 0 ≤ x4 then (if x4 < (x0.length : Int) then (if ((rd_T42 x0 x4).f2) = 0 then (merkhetref10_Of.l1 k x0 x3 x4 x5 (wrap64 (x6 - 1))) else (if 0 ≤ x6 then (if x6 < (x0.length : Int) then (if ((rd_T42 x0 x6).f1) = ((rd_T42 x0 x4).f2) then (merkhetref10_Of.l1 k x0 x3 x4 x6 (wrap64 (x6 - 1))) else (merkhetref10_Of.l1 k x0 x3 x4 x5 (wrap64 (x6 - 1)))) else (none)) else (none))) else (none)) else (none)) else (if x3.length < 17592186044416 then (merkhetref10_Of.l0 k x0 (x3 ++ [x5]) (wrap64 (x4 + 1))) else (none))
def merkhetref10_Of.l2 : Nat → List (S42) → List Int → List Int → Int → Option (List Int)
  | 0, _, _, _, _ => none
  | k + 1, x0, x3, x7, x8 => if x8 < (x0.length : Int) then ((merkhetref10_on.f k x3 x8).bind fun t132 => (merkhetref10_Of.l3 k x0 x3 x7 x8 t132 x8)) else (some x7)
def merkhetref10_Of.l3 : Nat → List (S42) → List Int → List Int → Int → Bool → Int → Option (List Int)
  | 0, _, _, _, _, _, _ => none
  | k + 1, x0, x3, x7, x8, x9, x10 => if x9 = true then (if 0 ≤ x10 then (if x10 < (x3.length : Int) then (merkhetref10_Of.j4 k x0 x3 x7 x8 x9 x10 ((rd x3 x10) != x8)) else (none)) else (none)) else (merkhetref10_Of.j4 k x0 x3 x7 x8 x9 x10 false)
def merkhetref10_Of.j4 : Nat → List (S42) → List Int → List Int → Int → Bool → Int → Bool → Option (List Int)
  | 0, _, _, _, _, _, _, _ => none
  | k + 1, x0, x3, x7, x8, x9, x10, x68 => if x68 = true then (if 0 ≤ x10 then (if x10 < (x3.length : Int) then (if (rd x3 x10) < x8 then (merkhetref10_Of.l3 k x0 x3 x7 x8 false (rd x3 x10)) else (merkhetref10_Of.l3 k x0 x3 x7 x8 x9 (rd x3 x10))) else (none)) else (none)) else (if x9 = true then (if x7.length < 17592186044416 then (merkhetref10_Of.l2 k x0 x3 (x7 ++ [(-1)]) (wrap64 (x8 + 1))) else (none)) else (if 0 ≤ x8 then (if x8 < (x3.length : Int) then (if x7.length < 17592186044416 then (merkhetref10_Of.l2 k x0 x3 (x7 ++ [rd x3 x8]) (wrap64 (x8 + 1))) else (none)) else (none)) else (none)))
end
def merkhetref10_Of.f (k : Nat) (l0 : List (S42)) : Option (List Int) := merkhetref10_Of.l0 k l0 (([] : List Int)) 0
theorem merkhetref10_Of.mono_l : ∀ k, (∀ y0 y1 y2, LeO (merkhetref10_Of.l0 k y0 y1 y2) (merkhetref10_Of.l0 (k + 1) y0 y1 y2)) ∧ (∀ y0 y1 y2 y3 y4, LeO (merkhetref10_Of.l1 k y0 y1 y2 y3 y4) (merkhetref10_Of.l1 (k + 1) y0 y1 y2 y3 y4)) ∧ (∀ y0 y1 y2 y3, LeO (merkhetref10_Of.l2 k y0 y1 y2 y3) (merkhetref10_Of.l2 (k + 1) y0 y1 y2 y3)) ∧ (∀ y0 y1 y2 y3 y4 y5, LeO (merkhetref10_Of.l3 k y0 y1 y2 y3 y4 y5) (merkhetref10_Of.l3 (k + 1) y0 y1 y2 y3 y4 y5)) ∧ (∀ y0 y1 y2 y3 y4 y5 y6, LeO (merkhetref10_Of.j4 k y0 y1 y2 y3 y4 y5 y6) (merkhetref10_Of.j4 (k + 1) y0 y1 y2 y3 y4 y5 y6))
  | 0 => ⟨fun _ _ _ r h => by simp [merkhetref10_Of.l0] at h, fun _ _ _ _ _ r h => by simp [merkhetref10_Of.l1] at h, fun _ _ _ _ r h => by simp [merkhetref10_Of.l2] at h, fun _ _ _ _ _ _ r h => by simp [merkhetref10_Of.l3] at h, fun _ _ _ _ _ _ _ r h => by simp [merkhetref10_Of.j4] at h⟩
  | k + 1 => by
    obtain ⟨ih0, ih1, ih2, ih3, ih4⟩ := merkhetref10_Of.mono_l k
    refine ⟨?_, ?_, ?_, ?_, ?_⟩
    · intro y0 y1 y2
      unfold merkhetref10_Of.l0
      repeat' first
      | (with_reducible exact ih0 _ _ _)
      | (with_reducible exact ih1 _ _ _ _ _)
      | (with_reducible exact ih2 _ _ _ _)
      | (with_reducible exact ih3 _ _ _ _ _ _)
      | (with_reducible exact ih4 _ _ _ _ _ _ _)
      | (with_reducible exact merkhetref10_on.mono _ _ _)
      | (with_reducible exact LeO.refl _)
      | (with_reducible exact LeO.none _)
      | (with_reducible refine LeO.ite ?_ ?_)
      | (with_reducible refine LeO.bind ?_ (fun _ => ?_))
      | exact ih0 _ _ _
      | exact ih1 _ _ _ _ _
      | exact ih2 _ _ _ _
      | exact ih3 _ _ _ _ _ _
      | exact ih4 _ _ _ _ _ _ _
      | exact merkhetref10_on.mono _ _ _
      | exact LeO.none _
      | refine LeO.ite ?_ ?_
      | refine LeO.bind ?_ (fun _ => ?_)
    · intro y0 y1 y2 y3 y4
      unfold merkhetref10_Of.l1
      repeat' first
      | (with_reducible exact ih0 _ _ _)
      | (with_reducible exact ih1 _ _ _ _ _)
      | (with_reducible exact ih2 _ _ _ _)
      | (with_reducible exact ih3 _ _ _ _ _ _)
      | (with_reducible exact ih4 _ _ _ _ _ _ _)
      | (with_reducible exact merkhetref10_on.mono _ _ _)
      | (with_reducible exact LeO.refl _)
      | (with_reducible exact LeO.none _)
      | (with_reducible refine LeO.ite ?_ ?_)
      | (with_reducible refine LeO.bind ?_ (fun _ => ?_))
      | exact ih0 _ _ _
      | exact ih1 _ _ _ _ _
      | exact ih2 _ _ _ _
      | exact ih3 _ _ _ _ _ _
      | exact ih4 _ _ _ _ _ _ _
      | exact merkhetref10_on.mono _ _ _
      | exact LeO.none _
      | refine LeO.ite ?_ ?_
      | refine LeO.bind ?_ (fun _ => ?_)
    · intro y0 y1 y2 y3
      unfold merkhetref10_Of.l2
      repeat' first
      | (with_reducible exact ih0 _ _ _)
      | (with_reducible exact ih1 _ _ _ _ _)
      | (with_reducible exact ih2 _ _ _ _)
      | (with_reducible exact ih3 _ _ _ _ _ _)
      | (with_reducible exact ih4 _ _ _ _ _ _ _)
      | (with_reducible exact merkhetref10_on.mono _ _ _)
      | (with_reducible exact LeO.refl _)
      | (with_reducible exact LeO.none _)
      | (with_reducible refine LeO.ite ?_ ?_)
      | (with_reducible refine LeO.bind ?_ (fun _ => ?_))
      | exact ih0 _ _ _
      | exact ih1 _ _ _ _ _
      | exact ih2 _ _ _ _
      | exact ih3 _ _ _ _ _ _
      | exact ih4 _ _ _ _ _ _ _
      | exact merkhetref10_on.mono _ _ _
      | exact LeO.none _
      | refine LeO.ite ?_ ?_
      | refine LeO.bind ?_ (fun _ => ?_)
    · intro y0 y1 y2 y3 y4 y5
      unfold merkhetref10_Of.l3
      repeat' first
      | (with_reducible exact ih0 _ _ _)
      | (with_reducible exact ih1 _ _ _ _ _)
      | (with_reducible exact ih2 _ _ _ _)
      | (with_reducible exact ih3 _ _ _ _ _ _)
      | (with_reducible exact ih4 _ _ _ _ _ _ _)
      | (with_reducible exact merkhetref10_on.mono _ _ _)
      | (with_reducible exact LeO.refl _)
      | (with_reducible exact LeO.none _)
      | (with_reducible refine LeO.ite ?_ ?_)
      | (with_reducible refine LeO.bind ?_ (fun _ => ?_))
      | exact ih0 _ _ _
      | exact ih1 _ _ _ _ _
      | exact ih2 _ _ _ _
      | exact ih3 _ _ _ _ _ _
      | exact ih4 _ _ _ _ _ _ _
      | exact merkhetref10_on.mono _ _ _
      | exact LeO.none _
      | refine LeO.ite ?_ ?_
      | refine LeO.bind ?_ (fun _ => ?_)
    · intro y0 y1 y2 y3 y4 y5 y6
      unfold merkhetref10_Of.j4
      repeat' first
      | (with_reducible exact ih0 _ _ _)
      | (with_reducible exact ih1 _ _ _ _ _)
      | (with_reducible exact ih2 _ _ _ _)
      | (with_reducible exact ih3 _ _ _ _ _ _)
      | (with_reducible exact ih4 _ _ _ _ _ _ _)
      | (with_reducible exact merkhetref10_on.mono _ _ _)
      | (with_reducible exact LeO.refl _)
      | (with_reducible exact LeO.none _)
      | (with_reducible refine LeO.ite ?_ ?_)
      | (with_reducible refine LeO.bind ?_ (fun _ => ?_))
      | exact ih0 _ _ _
      | exact ih1 _ _ _ _ _
      | exact ih2 _ _ _ _
      | exact ih3 _ _ _ _ _ _
      | exact ih4 _ _ _ _ _ _ _
      | exact merkhetref10_on.mono _ _ _
      | exact LeO.none _
      | refine LeO.ite ?_ ?_
      | refine LeO.bind ?_ (fun _ => ?_)
theorem merkhetref10_Of.mono : ∀ a0 k, LeO (merkhetref10_Of.f k a0) (merkhetref10_Of.f (k + 1) a0) := by
  intro a0 k
  obtain ⟨ih0, ih1, ih2, ih3, ih4⟩ := merkhetref10_Of.mono_l k
  unfold merkhetref10_Of.f
  repeat' first
      | (with_reducible exact ih0 _ _ _)
      | (with_reducible exact ih1 _ _ _ _ _)
      | (with_reducible exact ih2 _ _ _ _)
      | (with_reducible exact ih3 _ _ _ _ _ _)
      | (with_reducible exact ih4 _ _ _ _ _ _ _)
      | (with_reducible exact merkhetref10_on.mono _ _ _)
      | (with_reducible exact LeO.refl _)
      | (with_reducible exact LeO.none _)
      | (with_reducible refine LeO.ite ?_ ?_)
      | (with_reducible refine LeO.bind ?_ (fun _ => ?_))
      | exact ih0 _ _ _
      | exact ih1 _ _ _ _ _
      | exact ih2 _ _ _ _
      | exact ih3 _ _ _ _ _ _
      | exact ih4 _ _ _ _ _ _ _
      | exact merkhetref10_on.mono _ _ _
      | exact LeO.none _
      | refine LeO.ite ?_ ?_
      | refine LeO.bind ?_ (fun _ => ?_)
set_option maxHeartbeats 8000000 in
set_option maxRecDepth 100000 in
theorem merkhetref10_Of.calls (k : Nat) (A0 : Option Addr) (c0 : Nat) (l0 : List (S42)) (r : List Int) (w : World) (hr0 : Kd.C k42 w A0 l0.length l0) (hc0 : l0.length ≤ c0) (h : merkhetref10_Of.f k l0 = some r) :
    Calls Try.prog 14 #[.slice A0 l0.length c0] w fun e w' => ∃ v0_ : Value, e = .returned (v0_) ∧ Kd.R (Kd.int .i64) 3 w' w.heap.size (fun _ => True) v0_ r ∧ Below w.heap.size w w' := by
  have HR0 := Aside0.mk hr0
  have HC0 := Aside0.mk hc0
  clear hr0 hc0
  have HB := Aside0.mk (Below.refl w.heap.size w)
  have H : (merkhetref10_Of.l0 k l0 (([] : List Int)) 0) = some r := h
  clear h
  obtain ⟨y120, hy120⟩ : ∃ y_ : List Int, y_ = (([] : List Int)) := ⟨_, rfl⟩
  replace H : (merkhetref10_Of.l0 k l0 y120 0) = some r := by first | (rw [hy120]; with_reducible exact H) | (have H2_ := (Option.bind_some _ _).symm.trans H; rw [hy120]; with_reducible exact H2_) | (have H2_ := (Option.bind_some _ _).symm.trans H; with_reducible exact H2_) | with_reducible exact H | (rw [hy120]; exact H) | exact H
  have Ny120 := Aside0.mk hy120
  clear hy120
  have H' := Aside0.mk H
  clear H
  go_enter Try.func14, Try.ntmps14
  go_wp2_with (first | ((with_reducible refine gate_dst (N := 11) rfl ?_); refine Kd.R_lit (Kd.int .i64) _ 3 ?hg (N := 11) ?hd (xs := ([] : List Int)) (inner := []) (ok := fun _ => True) (okp := fun _ => True) ?hr ?hp (fun _ hk => hk) trivial (Below.refl _ _) (Nat.le_refl _) (by simp) ?_; (case hd => rfl); (case hg => rfl); (case hr => first | (go_simp; done) | (go_simp; rfl)); (case hp => exact (Reps.none _ _)); intro v121 w2 ho3 hb hg_ hnew_; clear hg_ hnew_; (first | rw [← Ny120.out] at ho3 | (simp only [Int.reduceToNat] at ho3; rw [← Ny120.out] at ho3)); have n0_ := Aside0.mk (Kd.R_lower ho3 (below_size (by repeat (first | (with_reducible first | exact HB.out | apply below_alloc | apply pw_below_drewN | apply below_drew1) | exact HB.out)))); have n1_ := Aside0.mk (below_step (by repeat (first | (with_reducible first | exact HB.out | apply below_alloc | apply pw_below_drewN | apply below_drew1) | exact HB.out)) hb); clear HB; have HO122 := n0_; have HB := n1_; clear n0_ n1_; clear hb ho3))
  repeat (go_quiet (first | ((with_reducible refine gate_dst (N := 11) rfl ?_); refine Kd.R_lit (Kd.int .i64) _ 3 ?hg (N := 11) ?hd (xs := ([] : List Int)) (inner := []) (ok := fun _ => True) (okp := fun _ => True) ?hr ?hp (fun _ hk => hk) trivial (Below.refl _ _) (Nat.le_refl _) (by simp) ?_; (case hd => rfl); (case hg => rfl); (case hr => first | (go_simp; done) | (go_simp; rfl)); (case hp => exact (Reps.none _ _)); intro v121 w2 ho3 hb hg_ hnew_; clear hg_ hnew_; (first | rw [← Ny120.out] at ho3 | (simp only [Int.reduceToNat] at ho3; rw [← Ny120.out] at ho3)); have n0_ := Aside0.mk (Kd.R_lower ho3 (below_size (by repeat (first | (with_reducible first | exact HB.out | apply below_alloc | apply pw_below_drewN | apply below_drew1) | exact HB.out)))); have n1_ := Aside0.mk (below_step (by repeat (first | (with_reducible first | exact HB.out | apply below_alloc | apply pw_below_drewN | apply below_drew1) | exact HB.out)) hb); clear HB; have HO122 := n0_; have HB := n1_; clear n0_ n1_; clear hb ho3)); try go_wp2_with (first | ((with_reducible refine gate_dst (N := 11) rfl ?_); refine Kd.R_lit (Kd.int .i64) _ 3 ?hg (N := 11) ?hd (xs := ([] : List Int)) (inner := []) (ok := fun _ => True) (okp := fun _ => True) ?hr ?hp (fun _ hk => hk) trivial (Below.refl _ _) (Nat.le_refl _) (by simp) ?_; (case hd => rfl); (case hg => rfl); (case hr => first | (go_simp; done) | (go_simp; rfl)); (case hp => exact (Reps.none _ _)); intro v121 w2 ho3 hb hg_ hnew_; clear hg_ hnew_; (first | rw [← Ny120.out] at ho3 | (simp only [Int.reduceToNat] at ho3; rw [← Ny120.out] at ho3)); have n0_ := Aside0.mk (Kd.R_lower ho3 (below_size (by repeat (first | (with_reducible first | exact HB.out | apply below_alloc | apply pw_below_drewN | apply below_drew1) | exact HB.out)))); have n1_ := Aside0.mk (below_step (by repeat (first | (with_reducible first | exact HB.out | apply below_alloc | apply pw_below_drewN | apply below_drew1) | exact HB.out)) hb); clear HB; have HO122 := n0_; have HB := n1_; clear n0_ n1_; clear hb ho3)))
  go_loopg [3, 4] k (fun kq v3 v4 w' => ∃ (x3_1 : List Int) (x4_1 : Int), v4 = .int .i64 x4_1 ∧ Aside0 (merkhetref10_Of.l0 kq l0 x3_1 x4_1 = some r) ∧ Aside0 (kq ≤ k) ∧ Aside0 (Kd.R (Kd.int .i64) 3 w' w.heap.size (fun _ => True) v3 x3_1) ∧ Aside0 (Below w.heap.size w w'))
  case atStart => exact ⟨(y120), (0), (by first | rfl | (simp; done) | (simp [*]; done)), H', ⟨Nat.le_refl _⟩, ⟨by (with_reducible repeat (first | apply Kd.R_alloc | apply Kd.R_drewN | apply Kd.R_drew)); exact HO122.out⟩, ⟨by repeat (first | (with_reducible first | exact HB.out | apply below_alloc | apply pw_below_drewN | apply below_drew1) | exact HB.out)⟩⟩
  case round =>
    clear H'
    try clear c1
    try clear p2
    obtain ⟨x3_1, x4_1, rfl, HA, HK1, HO_3, HB⟩ := hrel
    cases gk with
    | zero => exact absurd HA.out (by simp [merkhetref10_Of.l0])
    | succ k1 =>
      have H := HA.out
      clear HA
      simp only [merkhetref10_Of.l0] at H
      by_cases c4 : x4_1 < (l0.length : Int)
      · rw [if_pos c4] at H
        have c4b0 : decide (x4_1 < (l0.length : Int)) = true := decide_eq_true c4
        clear c4
        have H' := Aside0.mk H
        clear H
        go_wp2
        repeat (go_quiet (fail); try go_wp2)
        go_loopg [5, 6] k1 (fun kq v5 v6 w' => ∃ (x5_2 : Int) (x6_2 : Int), v5 = .int .i64 x5_2 ∧ v6 = .int .i64 x6_2 ∧ Aside0 (merkhetref10_Of.l1 kq l0 x3_1 x4_1 x5_2 x6_2 = some r) ∧ Aside0 (kq ≤ k1) ∧ Aside0 (Kd.R (Kd.int .i64) 3 w' w.heap.size (fun _ => True) u3 x3_1) ∧ Aside0 (Below w.heap.size w w'))
        case atStart => exact ⟨((-1)), (wrap64 ((l0.length : Int) - 1)), (by first | rfl | (simp; done) | (simp [*]; done)), (by first | rfl | (simp; done) | (simp [*]; done)), H', ⟨Nat.le_refl _⟩, ⟨by (with_reducible repeat (first | apply Kd.R_alloc | apply Kd.R_drewN | apply Kd.R_drew)); exact HO_3.out⟩, ⟨by repeat (first | (with_reducible first | exact HB.out | apply below_alloc | apply pw_below_drewN | apply below_drew1) | exact HB.out)⟩⟩
        case round =>
          clear H'
          try clear c1
          try clear p2
          try clear c4
          try clear c4b0
          try clear p2
          obtain ⟨x5_2, x6_2, rfl, rfl, HA, HK2, HO_3, HB⟩ := hrel
          cases gk with
          | zero => exact absurd HA.out (by simp [merkhetref10_Of.l1])
          | succ k2 =>
            have H := HA.out
            clear HA
            simp only [merkhetref10_Of.l1] at H
            by_cases c5 : x6_2 ≥ 0
            · rw [if_pos c5] at H
              have c5b0 : decide (0 ≤ x6_2) = true := decide_eq_true c5
              clear c5
              by_cases c6 : 0 ≤ x4_1
              · rw [if_pos c6] at H
                have c6b0 : decide (0 ≤ x4_1) = true := decide_eq_true c6
                clear c6
                by_cases c7 : x4_1 < (l0.length : Int)
                · rw [if_pos c7] at H
                  have c7b0 : decide (x4_1 < (l0.length : Int)) = true := decide_eq_true c7
                  clear c7
                  by_cases c8 : ((rd_T42 l0 x4_1).f2) = 0
                  · rw [if_pos c8] at H
                    have c8b0 : (((rd_T42 l0 x4_1).f2) == 0) = true := beq_iff_eq.mpr c8
                    have c8b1 : (((rd_T42 l0 x4_1).f2) != 0) = false := bne_eq_false_iff_eq.mpr c8
                    clear c8
                    have H' := Aside0.mk H
                    clear H
                    have p126 : 0 ≤ (x4_1 : Int) := of_decide_eq_true (by first | (with_reducible assumption) | assumption)
                    have q126 : x4_1 < (l0.length : Int) := of_decide_eq_true (by first | (with_reducible assumption) | assumption)
                    obtain ⟨ad126, e126, hx126_0, hx126_1, hx126_2, hx126_3, hx126_4, hx126_5, hx126_6, hx126_7⟩ := at_T42 HR0.out x4_1 p126 q126
                    cases e126
                    replace hx126_0 := (HB.out.cell (World.block_lt_of_cell? w _ hx126_0)).trans hx126_0
                    replace hx126_1 := (HB.out.cell (World.block_lt_of_cell? w _ hx126_1)).trans hx126_1
                    replace hx126_2 := (HB.out.cell (World.block_lt_of_cell? w _ hx126_2)).trans hx126_2
                    replace hx126_3 := (HB.out.cell (World.block_lt_of_cell? w _ hx126_3)).trans hx126_3
                    replace hx126_4 := (HB.out.cell (World.block_lt_of_cell? w _ hx126_4)).trans hx126_4
                    replace hx126_5 := (HB.out.cell (World.block_lt_of_cell? w _ hx126_5)).trans hx126_5
                    replace hx126_6 := (HB.out.cell (World.block_lt_of_cell? w _ hx126_6)).trans hx126_6
                    replace hx126_7 := (HB.out.cell (World.block_lt_of_cell? w _ hx126_7)).trans hx126_7
                    replace p126 := eq_true p126
                    replace q126 := eq_true q126
                    go_wp2
                    repeat (go_quiet (fail); try go_wp2)
                    go_roundg k2
                    case measure => have := HK1.out; have := HK2.out; omega
                    case rel => exact ⟨(x5_2), (wrap64 (x6_2 - 1)), (by first | rfl | (simp; done) | (simp [*]; done)), (by first | rfl | (simp; done) | (simp [*]; done)), H', ⟨by have := HK1.out; have := HK2.out; omega⟩, ⟨by (with_reducible repeat (first | apply Kd.R_alloc | apply Kd.R_drewN | apply Kd.R_drew)); exact HO_3.out⟩, ⟨by repeat (first | (with_reducible first | exact HB.out | apply below_alloc | apply pw_below_drewN | apply below_drew1) | exact HB.out)⟩⟩
                  · rw [if_neg c8] at H
                    have c8b0 : (((rd_T42 l0 x4_1).f2) == 0) = false := beq_eq_false_iff_ne.mpr c8
                    have c8b1 : (((rd_T42 l0 x4_1).f2) != 0) = true := bne_iff_ne.mpr c8
                    by_cases c9 : 0 ≤ x6_2
                    · rw [if_pos c9] at H
                      have c9b0 : decide (0 ≤ x6_2) = true := decide_eq_true c9
                      clear c9
                      by_cases c10 : x6_2 < (l0.length : Int)
                      · rw [if_pos c10] at H
                        have c10b0 : decide (x6_2 < (l0.length : Int)) = true := decide_eq_true c10
                        clear c10
                        by_cases c11 : ((rd_T42 l0 x6_2).f1) = ((rd_T42 l0 x4_1).f2)
                        · rw [if_pos c11] at H
                          have c11b0 : (((rd_T42 l0 x6_2).f1) == ((rd_T42 l0 x4_1).f2)) = true := beq_iff_eq.mpr c11
                          have c11b1 : (((rd_T42 l0 x6_2).f1) != ((rd_T42 l0 x4_1).f2)) = false := bne_eq_false_iff_eq.mpr c11
                          clear c11
                          have H' := Aside0.mk H
                          clear H
                          have p126 : 0 ≤ (x4_1 : Int) := of_decide_eq_true (by first | (with_reducible assumption) | assumption)
                          have q126 : x4_1 < (l0.length : Int) := of_decide_eq_true (by first | (with_reducible assumption) | assumption)
                          obtain ⟨ad126, e126, hx126_0, hx126_1, hx126_2, hx126_3, hx126_4, hx126_5, hx126_6, hx126_7⟩ := at_T42 HR0.out x4_1 p126 q126
                          cases e126
                          replace hx126_0 := (HB.out.cell (World.block_lt_of_cell? w _ hx126_0)).trans hx126_0
                          replace hx126_1 := (HB.out.cell (World.block_lt_of_cell? w _ hx126_1)).trans hx126_1
                          replace hx126_2 := (HB.out.cell (World.block_lt_of_cell? w _ hx126_2)).trans hx126_2
                          replace hx126_3 := (HB.out.cell (World.block_lt_of_cell? w _ hx126_3)).trans hx126_3
                          replace hx126_4 := (HB.out.cell (World.block_lt_of_cell? w _ hx126_4)).trans hx126_4
                          replace hx126_5 := (HB.out.cell (World.block_lt_of_cell? w _ hx126_5)).trans hx126_5
                          replace hx126_6 := (HB.out.cell (World.block_lt_of_cell? w _ hx126_6)).trans hx126_6
                          replace hx126_7 := (HB.out.cell (World.block_lt_of_cell? w _ hx126_7)).trans hx126_7
                          replace p126 := eq_true p126
                          replace q126 := eq_true q126
                          have p127 : 0 ≤ (x6_2 : Int) := of_decide_eq_true (by first | (with_reducible assumption) | assumption)
                          have q127 : x6_2 < (l0.length : Int) := of_decide_eq_true (by first | (with_reducible assumption) | assumption)
                          obtain ⟨ad127, e127, hx127_0, hx127_1, hx127_2, hx127_3, hx127_4, hx127_5, hx127_6, hx127_7⟩ := at_T42 HR0.out x6_2 p127 q127
                          obtain rfl : ad126 = ad127 := (by injection e127)
                          replace hx127_0 := (HB.out.cell (World.block_lt_of_cell? w _ hx127_0)).trans hx127_0
                          replace hx127_1 := (HB.out.cell (World.block_lt_of_cell? w _ hx127_1)).trans hx127_1
                          replace hx127_2 := (HB.out.cell (World.block_lt_of_cell? w _ hx127_2)).trans hx127_2
                          replace hx127_3 := (HB.out.cell (World.block_lt_of_cell? w _ hx127_3)).trans hx127_3
                          replace hx127_4 := (HB.out.cell (World.block_lt_of_cell? w _ hx127_4)).trans hx127_4
                          replace hx127_5 := (HB.out.cell (World.block_lt_of_cell? w _ hx127_5)).trans hx127_5
                          replace hx127_6 := (HB.out.cell (World.block_lt_of_cell? w _ hx127_6)).trans hx127_6
                          replace hx127_7 := (HB.out.cell (World.block_lt_of_cell? w _ hx127_7)).trans hx127_7
                          replace p127 := eq_true p127
                          replace q127 := eq_true q127
                          have p128 : 0 ≤ (x4_1 : Int) := of_decide_eq_true (by first | (with_reducible assumption) | assumption)
                          have q128 : x4_1 < (l0.length : Int) := of_decide_eq_true (by first | (with_reducible assumption) | assumption)
                          obtain ⟨ad128, e128, hx128_0, hx128_1, hx128_2, hx128_3, hx128_4, hx128_5, hx128_6, hx128_7⟩ := at_T42 HR0.out x4_1 p128 q128
                          obtain rfl : ad126 = ad128 := (by injection e128)
                          replace hx128_0 := (HB.out.cell (World.block_lt_of_cell? w _ hx128_0)).trans hx128_0
                          replace hx128_1 := (HB.out.cell (World.block_lt_of_cell? w _ hx128_1)).trans hx128_1
                          replace hx128_2 := (HB.out.cell (World.block_lt_of_cell? w _ hx128_2)).trans hx128_2
                          replace hx128_3 := (HB.out.cell (World.block_lt_of_cell? w _ hx128_3)).trans hx128_3
                          replace hx128_4 := (HB.out.cell (World.block_lt_of_cell? w _ hx128_4)).trans hx128_4
                          replace hx128_5 := (HB.out.cell (World.block_lt_of_cell? w _ hx128_5)).trans hx128_5
                          replace hx128_6 := (HB.out.cell (World.block_lt_of_cell? w _ hx128_6)).trans hx128_6
                          replace hx128_7 := (HB.out.cell (World.block_lt_of_cell? w _ hx128_7)).trans hx128_7
                          replace p128 := eq_true p128
                          replace q128 := eq_true q128
                          go_wp2
                          repeat (go_quiet (fail); try go_wp2)
                          go_roundg k2
                          case measure => have := HK1.out; have := HK2.out; omega
                          case rel => exact ⟨(x6_2), (wrap64 (x6_2 - 1)), (by first | rfl | (simp; done) | (simp [*]; done)), (by first | rfl | (simp; done) | (simp [*]; done)), H', ⟨by have := HK1.out; have := HK2.out; omega⟩, ⟨by (with_reducible repeat (first | apply Kd.R_alloc | apply Kd.R_drewN | apply Kd.R_drew)); exact HO_3.out⟩, ⟨by repeat (first | (with_reducible first | exact HB.out | apply below_alloc | apply pw_below_drewN | apply below_drew1) | exact HB.out)⟩⟩
                        · rw [if_neg c11] at H
                          have c11b0 : (((rd_T42 l0 x6_2).f1) == ((rd_T42 l0 x4_1).f2)) = false := beq_eq_false_iff_ne.mpr c11
                          have c11b1 : (((rd_T42 l0 x6_2).f1) != ((rd_T42 l0 x4_1).f2)) = true := bne_iff_ne.mpr c11
                          have H' := Aside0.mk H
                          clear H
                          have p126 : 0 ≤ (x4_1 : Int) := of_decide_eq_true (by first | (with_reducible assumption) | assumption)
                          have q126 : x4_1 < (l0.length : Int) := of_decide_eq_true (by first | (with_reducible assumption) | assumption)
                          obtain ⟨ad126, e126, hx126_0, hx126_1, hx126_2, hx126_3, hx126_4, hx126_5, hx126_6, hx126_7⟩ := at_T42 HR0.out x4_1 p126 q126
                          cases e126
                          replace hx126_0 := (HB.out.cell (World.block_lt_of_cell? w _ hx126_0)).trans hx126_0
                          replace hx126_1 := (HB.out.cell (World.block_lt_of_cell? w _ hx126_1)).trans hx126_1
                          replace hx126_2 := (HB.out.cell (World.block_lt_of_cell? w _ hx126_2)).trans hx126_2
                          replace hx126_3 := (HB.out.cell (World.block_lt_of_cell? w _ hx126_3)).trans hx126_3
                          replace hx126_4 := (HB.out.cell (World.block_lt_of_cell? w _ hx126_4)).trans hx126_4
                          replace hx126_5 := (HB.out.cell (World.block_lt_of_cell? w _ hx126_5)).trans hx126_5
                          replace hx126_6 := (HB.out.cell (World.block_lt_of_cell? w _ hx126_6)).trans hx126_6
                          replace hx126_7 := (HB.out.cell (World.block_lt_of_cell? w _ hx126_7)).trans hx126_7
                          replace p126 := eq_true p126
                          replace q126 := eq_true q126
                          have p127 : 0 ≤ (x6_2 : Int) := of_decide_eq_true (by first | (with_reducible assumption) | assumption)
                          have q127 : x6_2 < (l0.length : Int) := of_decide_eq_true (by first | (with_reducible assumption) | assumption)
                          obtain ⟨ad127, e127, hx127_0, hx127_1, hx127_2, hx127_3, hx127_4, hx127_5, hx127_6, hx127_7⟩ := at_T42 HR0.out x6_2 p127 q127
                          obtain rfl : ad126 = ad127 := (by injection e127)
                          replace hx127_0 := (HB.out.cell (World.block_lt_of_cell? w _ hx127_0)).trans hx127_0
                          replace hx127_1 := (HB.out.cell (World.block_lt_of_cell? w _ hx127_1)).trans hx127_1
                          replace hx127_2 := (HB.out.cell (World.block_lt_of_cell? w _ hx127_2)).trans hx127_2
                          replace hx127_3 := (HB.out.cell (World.block_lt_of_cell? w _ hx127_3)).trans hx127_3
                          replace hx127_4 := (HB.out.cell (World.block_lt_of_cell? w _ hx127_4)).trans hx127_4
                          replace hx127_5 := (HB.out.cell (World.block_lt_of_cell? w _ hx127_5)).trans hx127_5
                          replace hx127_6 := (HB.out.cell (World.block_lt_of_cell? w _ hx127_6)).trans hx127_6
                          replace hx127_7 := (HB.out.cell (World.block_lt_of_cell? w _ hx127_7)).trans hx127_7
                          replace p127 := eq_true p127
                          replace q127 := eq_true q127
                          have p128 : 0 ≤ (x4_1 : Int) := of_decide_eq_true (by first | (with_reducible assumption) | assumption)
                          have q128 : x4_1 < (l0.length : Int) := of_decide_eq_true (by first | (with_reducible assumption) | assumption)
                          obtain ⟨ad128, e128, hx128_0, hx128_1, hx128_2, hx128_3, hx128_4, hx128_5, hx128_6, hx128_7⟩ := at_T42 HR0.out x4_1 p128 q128
                          obtain rfl : ad126 = ad128 := (by injection e128)
                          replace hx128_0 := (HB.out.cell (World.block_lt_of_cell? w _ hx128_0)).trans hx128_0
                          replace hx128_1 := (HB.out.cell (World.block_lt_of_cell? w _ hx128_1)).trans hx128_1
                          replace hx128_2 := (HB.out.cell (World.block_lt_of_cell? w _ hx128_2)).trans hx128_2
                          replace hx128_3 := (HB.out.cell (World.block_lt_of_cell? w _ hx128_3)).trans hx128_3
                          replace hx128_4 := (HB.out.cell (World.block_lt_of_cell? w _ hx128_4)).trans hx128_4
                          replace hx128_5 := (HB.out.cell (World.block_lt_of_cell? w _ hx128_5)).trans hx128_5
                          replace hx128_6 := (HB.out.cell (World.block_lt_of_cell? w _ hx128_6)).trans hx128_6
                          replace hx128_7 := (HB.out.cell (World.block_lt_of_cell? w _ hx128_7)).trans hx128_7
                          replace p128 := eq_true p128
                          replace q128 := eq_true q128
                          go_wp2
                          repeat (go_quiet (fail); try go_wp2)
                          go_roundg k2
                          case measure => have := HK1.out; have := HK2.out; omega
                          case rel => exact ⟨(x5_2), (wrap64 (x6_2 - 1)), (by first | rfl | (simp; done) | (simp [*]; done)), (by first | rfl | (simp; done) | (simp [*]; done)), H', ⟨by have := HK1.out; have := HK2.out; omega⟩, ⟨by (with_reducible repeat (first | apply Kd.R_alloc | apply Kd.R_drewN | apply Kd.R_drew)); exact HO_3.out⟩, ⟨by repeat (first | (with_reducible first | exact HB.out | apply below_alloc | apply pw_below_drewN | apply below_drew1) | exact HB.out)⟩⟩
                      · rw [if_neg c10] at H
                        exact absurd H (by simp)
                    · rw [if_neg c9] at H
                      exact absurd H (by simp)
                · rw [if_neg c7] at H
                  exact absurd H (by simp)
              · rw [if_neg c6] at H
                exact absurd H (by simp)
            · rw [if_neg c5] at H
              have c5b0 : decide (0 ≤ x6_2) = false := decide_eq_false c5
              clear c5
              by_cases c12 : x3_1.length < 17592186044416
              · rw [if_pos c12] at H
                have LMc12 := Aside0.mk c12
                clear c12
                obtain ⟨y123, hy123⟩ : ∃ y_ : List Int, y_ = (x3_1 ++ [x5_2]) := ⟨_, rfl⟩
                replace H : (merkhetref10_Of.l0 k2 l0 y123 (wrap64 (x4_1 + 1))) = some r := by first | (rw [hy123]; with_reducible exact H) | (have H2_ := (Option.bind_some _ _).symm.trans H; rw [hy123]; with_reducible exact H2_) | (have H2_ := (Option.bind_some _ _).symm.trans H; with_reducible exact H2_) | with_reducible exact H | (rw [hy123]; exact H) | exact H
                have Ny123 := Aside0.mk hy123
                clear hy123
                have H' := Aside0.mk H
                clear H
                go_wp2_with (first | ((with_reducible refine gate_builtin (b := .append) (xs := #[.tmp 45, .tmp 47]) rfl ?_); at_builtin; refine Kd.R_append (Kd.int .i64) (w0 := w) w.heap.size rfl (.tmp 45) (.tmp 47) 27 3 (.int .i64 0) 8 rfl Try.underlying27 info3 rfl (by decide) (by omega) u3 x3_1 x5_2 [.int .i64 x5_2] (fun _ => True) (fun _ => False) rfl rfl ?aP (fun _ hk => hk.elim) ?aF ?aO ?aB ?aS ?aL ?_; (case aP => exact rfl); (case aB => exact (by repeat (first | (with_reducible first | exact HB.out | apply below_alloc | apply pw_below_drewN | apply below_drew1) | exact HB.out))); (case aF => exact (fun _ _ => trivial)); (case aO => exact (by (with_reducible repeat (first | apply Kd.R_alloc | apply Kd.R_drewN | apply Kd.R_drew)); exact HO_3.out)); (case aS => exact (below_size (by repeat (first | (with_reducible first | exact HB.out | apply below_alloc | apply pw_below_drewN | apply below_drew1) | exact HB.out)))); (case aL => have := LMc12.out; omega); intro v124 w13 ho hb hg hat; rw [← Ny123.out] at ho; have n0_ := Aside0.mk (hb); have n1_ := Aside0.mk (ho); clear HB; clear HO_3; have HB := n0_; have HO125 := n1_; clear n0_ n1_; clear ho hb hg hat))
                repeat (go_quiet (first | ((with_reducible refine gate_builtin (b := .append) (xs := #[.tmp 45, .tmp 47]) rfl ?_); at_builtin; refine Kd.R_append (Kd.int .i64) (w0 := w) w.heap.size rfl (.tmp 45) (.tmp 47) 27 3 (.int .i64 0) 8 rfl Try.underlying27 info3 rfl (by decide) (by omega) u3 x3_1 x5_2 [.int .i64 x5_2] (fun _ => True) (fun _ => False) rfl rfl ?aP (fun _ hk => hk.elim) ?aF ?aO ?aB ?aS ?aL ?_; (case aP => exact rfl); (case aB => exact (by repeat (first | (with_reducible first | exact HB.out | apply below_alloc | apply pw_below_drewN | apply below_drew1) | exact HB.out))); (case aF => exact (fun _ _ => trivial)); (case aO => exact (by (with_reducible repeat (first | apply Kd.R_alloc | apply Kd.R_drewN | apply Kd.R_drew)); exact HO_3.out)); (case aS => exact (below_size (by repeat (first | (with_reducible first | exact HB.out | apply below_alloc | apply pw_below_drewN | apply below_drew1) | exact HB.out)))); (case aL => have := LMc12.out; omega); intro v124 w13 ho hb hg hat; rw [← Ny123.out] at ho; have n0_ := Aside0.mk (hb); have n1_ := Aside0.mk (ho); clear HB; clear HO_3; have HB := n0_; have HO125 := n1_; clear n0_ n1_; clear ho hb hg hat)); try go_wp2_with (first | ((with_reducible refine gate_builtin (b := .append) (xs := #[.tmp 45, .tmp 47]) rfl ?_); at_builtin; refine Kd.R_append (Kd.int .i64) (w0 := w) w.heap.size rfl (.tmp 45) (.tmp 47) 27 3 (.int .i64 0) 8 rfl Try.underlying27 info3 rfl (by decide) (by omega) u3 x3_1 x5_2 [.int .i64 x5_2] (fun _ => True) (fun _ => False) rfl rfl ?aP (fun _ hk => hk.elim) ?aF ?aO ?aB ?aS ?aL ?_; (case aP => exact rfl); (case aB => exact (by repeat (first | (with_reducible first | exact HB.out | apply below_alloc | apply pw_below_drewN | apply below_drew1) | exact HB.out))); (case aF => exact (fun _ _ => trivial)); (case aO => exact (by (with_reducible repeat (first | apply Kd.R_alloc | apply Kd.R_drewN | apply Kd.R_drew)); exact HO_3.out)); (case aS => exact (below_size (by repeat (first | (with_reducible first | exact HB.out | apply below_alloc | apply pw_below_drewN | apply below_drew1) | exact HB.out)))); (case aL => have := LMc12.out; omega); intro v124 w13 ho hb hg hat; rw [← Ny123.out] at ho; have n0_ := Aside0.mk (hb); have n1_ := Aside0.mk (ho); clear HB; clear HO_3; have HB := n0_; have HO125 := n1_; clear n0_ n1_; clear ho hb hg hat)))
                go_roundg k2
                case measure => have := HK1.out; have := HK2.out; omega
                case rel => exact ⟨(y123), (wrap64 (x4_1 + 1)), (by first | rfl | (simp; done) | (simp [*]; done)), H', ⟨by have := HK1.out; have := HK2.out; omega⟩, ⟨by (with_reducible repeat (first | apply Kd.R_alloc | apply Kd.R_drewN | apply Kd.R_drew)); exact HO125.out⟩, ⟨by repeat (first | (with_reducible first | exact HB.out | apply below_alloc | apply pw_below_drewN | apply below_drew1) | exact HB.out)⟩⟩
              · rw [if_neg c12] at H
                exact absurd H (by simp)
      · rw [if_neg c4] at H
        have c4b0 : decide (x4_1 < (l0.length : Int)) = false := decide_eq_false c4
        clear c4
        obtain ⟨y129, hy129⟩ : ∃ y_ : List Int, y_ = (([] : List Int)) := ⟨_, rfl⟩
        replace H : (merkhetref10_Of.l2 k1 l0 x3_1 y129 0) = some r := by first | (rw [hy129]; with_reducible exact H) | (have H2_ := (Option.bind_some _ _).symm.trans H; rw [hy129]; with_reducible exact H2_) | (have H2_ := (Option.bind_some _ _).symm.trans H; with_reducible exact H2_) | with_reducible exact H | (rw [hy129]; exact H) | exact H
        have Ny129 := Aside0.mk hy129
        clear hy129
        have H' := Aside0.mk H
        clear H
        go_wp2_with (first | ((with_reducible refine gate_dst (N := 49) rfl ?_); refine Kd.R_lit (Kd.int .i64) _ 3 ?hg (N := 49) ?hd (xs := ([] : List Int)) (inner := []) (ok := fun _ => True) (okp := fun _ => True) ?hr ?hp (fun _ hk => hk) trivial (Below.refl _ _) (Nat.le_refl _) (by simp) ?_; (case hd => rfl); (case hg => rfl); (case hr => first | (go_simp; done) | (go_simp; rfl)); (case hp => exact (Reps.none _ _)); intro v130 w14 ho15 hb hg_ hnew_; clear hg_ hnew_; (first | rw [← Ny129.out] at ho15 | (simp only [Int.reduceToNat] at ho15; rw [← Ny129.out] at ho15)); have n0_ := Aside0.mk (Kd.R_elder' (by (with_reducible repeat (first | apply Kd.R_alloc | apply Kd.R_drewN | apply Kd.R_drew)); exact HO_3.out) (Kd.R_base ho15) hb); have n1_ := Aside0.mk (Kd.R_lower (Kd.R_new' ho15 (Kd.R_lt (by (with_reducible repeat (first | apply Kd.R_alloc | apply Kd.R_drewN | apply Kd.R_drew)); exact HO_3.out))) (below_size (by repeat (first | (with_reducible first | exact HB.out | apply below_alloc | apply pw_below_drewN | apply below_drew1) | exact HB.out)))); have n2_ := Aside0.mk (below_step (by repeat (first | (with_reducible first | exact HB.out | apply below_alloc | apply pw_below_drewN | apply below_drew1) | exact HB.out)) hb); clear HO_3; clear HB; have HO_3 := n0_; have HO131 := n1_; have HB := n2_; clear n0_ n1_ n2_; clear hb ho15))
        repeat (go_quiet (first | ((with_reducible refine gate_dst (N := 49) rfl ?_); refine Kd.R_lit (Kd.int .i64) _ 3 ?hg (N := 49) ?hd (xs := ([] : List Int)) (inner := []) (ok := fun _ => True) (okp := fun _ => True) ?hr ?hp (fun _ hk => hk) trivial (Below.refl _ _) (Nat.le_refl _) (by simp) ?_; (case hd => rfl); (case hg => rfl); (case hr => first | (go_simp; done) | (go_simp; rfl)); (case hp => exact (Reps.none _ _)); intro v130 w14 ho15 hb hg_ hnew_; clear hg_ hnew_; (first | rw [← Ny129.out] at ho15 | (simp only [Int.reduceToNat] at ho15; rw [← Ny129.out] at ho15)); have n0_ := Aside0.mk (Kd.R_elder' (by (with_reducible repeat (first | apply Kd.R_alloc | apply Kd.R_drewN | apply Kd.R_drew)); exact HO_3.out) (Kd.R_base ho15) hb); have n1_ := Aside0.mk (Kd.R_lower (Kd.R_new' ho15 (Kd.R_lt (by (with_reducible repeat (first | apply Kd.R_alloc | apply Kd.R_drewN | apply Kd.R_drew)); exact HO_3.out))) (below_size (by repeat (first | (with_reducible first | exact HB.out | apply below_alloc | apply pw_below_drewN | apply below_drew1) | exact HB.out)))); have n2_ := Aside0.mk (below_step (by repeat (first | (with_reducible first | exact HB.out | apply below_alloc | apply pw_below_drewN | apply below_drew1) | exact HB.out)) hb); clear HO_3; clear HB; have HO_3 := n0_; have HO131 := n1_; have HB := n2_; clear n0_ n1_ n2_; clear hb ho15)); try go_wp2_with (first | ((with_reducible refine gate_dst (N := 49) rfl ?_); refine Kd.R_lit (Kd.int .i64) _ 3 ?hg (N := 49) ?hd (xs := ([] : List Int)) (inner := []) (ok := fun _ => True) (okp := fun _ => True) ?hr ?hp (fun _ hk => hk) trivial (Below.refl _ _) (Nat.le_refl _) (by simp) ?_; (case hd => rfl); (case hg => rfl); (case hr => first | (go_simp; done) | (go_simp; rfl)); (case hp => exact (Reps.none _ _)); intro v130 w14 ho15 hb hg_ hnew_; clear hg_ hnew_; (first | rw [← Ny129.out] at ho15 | (simp only [Int.reduceToNat] at ho15; rw [← Ny129.out] at ho15)); have n0_ := Aside0.mk (Kd.R_elder' (by (with_reducible repeat (first | apply Kd.R_alloc | apply Kd.R_drewN | apply Kd.R_drew)); exact HO_3.out) (Kd.R_base ho15) hb); have n1_ := Aside0.mk (Kd.R_lower (Kd.R_new' ho15 (Kd.R_lt (by (with_reducible repeat (first | apply Kd.R_alloc | apply Kd.R_drewN | apply Kd.R_drew)); exact HO_3.out))) (below_size (by repeat (first | (with_reducible first | exact HB.out | apply below_alloc | apply pw_below_drewN | apply below_drew1) | exact HB.out)))); have n2_ := Aside0.mk (below_step (by repeat (first | (with_reducible first | exact HB.out | apply below_alloc | apply pw_below_drewN | apply below_drew1) | exact HB.out)) hb); clear HO_3; clear HB; have HO_3 := n0_; have HO131 := n1_; have HB := n2_; clear n0_ n1_ n2_; clear hb ho15)))
        go_loopg [7, 8] k1 (fun kq v7 v8 w' => ∃ (x7_2 : List Int) (x8_2 : Int), v8 = .int .i64 x8_2 ∧ Aside0 (merkhetref10_Of.l2 kq l0 x3_1 x7_2 x8_2 = some r) ∧ Aside0 (kq ≤ k1) ∧ Aside0 (Kd.R (Kd.int .i64) 3 w' w.heap.size (fun k_ => some k_ ≠ (v7 : Value).ownBlock) u3 x3_1) ∧ Aside0 (Kd.R (Kd.int .i64) 3 w' w.heap.size (fun k_ => some k_ ≠ (u3 : Value).ownBlock) v7 x7_2) ∧ Aside0 (Below w.heap.size w w'))
        case atStart => exact ⟨(y129), (0), (by first | rfl | (simp; done) | (simp [*]; done)), H', ⟨Nat.le_refl _⟩, ⟨by (with_reducible repeat (first | apply Kd.R_alloc | apply Kd.R_drewN | apply Kd.R_drew)); exact Kd.R_mono HO_3.out (fun _ hk => hk.2)⟩, ⟨by (with_reducible repeat (first | apply Kd.R_alloc | apply Kd.R_drewN | apply Kd.R_drew)); exact Kd.R_mono HO131.out (fun _ hk => hk.2)⟩, ⟨by repeat (first | (with_reducible first | exact HB.out | apply below_alloc | apply pw_below_drewN | apply below_drew1) | exact HB.out)⟩⟩
        case round =>
          clear H'
          try clear c1
          try clear p1
          try clear q1
          try clear hx1
          try clear p2
          try clear c4
          try clear c4b0
          try clear c5
          try clear c5b0
          try clear c6
          try clear c6b0
          try clear p6
          try clear c7
          try clear c7b0
          try clear c8
          try clear c8b0
          try clear c8b1
          try clear c9
          try clear c9b0
          try clear c10
          try clear c10b0
          try clear c11
          try clear c11b0
          try clear c11b1
          try clear c12
          try clear p12
          try clear q12
          try clear hx12
          try clear c14
          try clear hx126_0
          try clear hx126_1
          try clear hx126_2
          try clear hx126_3
          try clear hx126_4
          try clear hx126_5
          try clear hx126_6
          try clear hx126_7
          try clear hx127_0
          try clear hx127_1
          try clear hx127_2
          try clear hx127_3
          try clear hx127_4
          try clear hx127_5
          try clear hx127_6
          try clear hx127_7
          try clear hx128_0
          try clear hx128_1
          try clear hx128_2
          try clear hx128_3
          try clear hx128_4
          try clear hx128_5
          try clear hx128_6
          try clear hx128_7
          try clear p126
          try clear p127
          try clear p128
          try clear p2
          try clear q126
          try clear q127
          try clear q128
          obtain ⟨x7_2, x8_2, rfl, HA, HK2, HO_3, HO_7, HB⟩ := hrel
          cases gk with
          | zero => exact absurd HA.out (by simp [merkhetref10_Of.l2])
          | succ k2 =>
            have H := HA.out
            clear HA
            simp only [merkhetref10_Of.l2] at H
            by_cases c16 : x8_2 < (l0.length : Int)
            · rw [if_pos c16] at H
              have c16b0 : decide (x8_2 < (l0.length : Int)) = true := decide_eq_true c16
              clear c16
              replace H := Option.bind_eq_some_iff.mp H
              obtain ⟨t132, A170, H⟩ := H
              replace H : (merkhetref10_Of.l3 k2 l0 x3_1 x7_2 x8_2 t132 x8_2) = some r := H
              have A17 := Aside0.mk A170
              clear A170
              have H' := Aside0.mk H
              clear H
              obtain ⟨Ao18, co18, eo18⟩ := Kd.R_slice HO_3.out
              subst eo18
              go_wp2_with (first | (go_at_call 33; (with_reducible refine (merkhetref10_on.calls k2 _ _ x3_1 x8_2 t132 _ ?side1 ?side2 A17.out).mono ?_); (case side1 => repeat (first | exact (Kd.R_reads' HO_3.out).2.2 | (with_reducible refine Kd.C_alloc ?_ _) | (with_reducible refine Kd.C_drewN ?_ _) | (with_reducible refine Kd.C_drew ?_))); (case side2 => exact (Kd.R_reads' HO_3.out).2.1); rintro e w' ⟨rfl, ⟨nd, rfl⟩⟩; (try first | exact ⟨rfl, _, World.drewN_drewN _ _ _⟩ | exact ⟨rfl, _, Eq.trans (World.drewN_drewN _ _ _) (congrArg (World.drewN _) (Nat.add_assoc _ _ _))⟩)))
              repeat (go_quiet (first | (go_at_call 33; (with_reducible refine (merkhetref10_on.calls k2 _ _ x3_1 x8_2 t132 _ ?side1 ?side2 A17.out).mono ?_); (case side1 => repeat (first | exact (Kd.R_reads' HO_3.out).2.2 | (with_reducible refine Kd.C_alloc ?_ _) | (with_reducible refine Kd.C_drewN ?_ _) | (with_reducible refine Kd.C_drew ?_))); (case side2 => exact (Kd.R_reads' HO_3.out).2.1); rintro e w' ⟨rfl, ⟨nd, rfl⟩⟩; (try first | exact ⟨rfl, _, World.drewN_drewN _ _ _⟩ | exact ⟨rfl, _, Eq.trans (World.drewN_drewN _ _ _) (congrArg (World.drewN _) (Nat.add_assoc _ _ _))⟩))); try go_wp2_with (first | (go_at_call 33; (with_reducible refine (merkhetref10_on.calls k2 _ _ x3_1 x8_2 t132 _ ?side1 ?side2 A17.out).mono ?_); (case side1 => repeat (first | exact (Kd.R_reads' HO_3.out).2.2 | (with_reducible refine Kd.C_alloc ?_ _) | (with_reducible refine Kd.C_drewN ?_ _) | (with_reducible refine Kd.C_drew ?_))); (case side2 => exact (Kd.R_reads' HO_3.out).2.1); rintro e w' ⟨rfl, ⟨nd, rfl⟩⟩; (try first | exact ⟨rfl, _, World.drewN_drewN _ _ _⟩ | exact ⟨rfl, _, Eq.trans (World.drewN_drewN _ _ _) (congrArg (World.drewN _) (Nat.add_assoc _ _ _))⟩))))
              go_loopg [9, 10] k2 (fun kq v9 v10 w' => ∃ (x9_3 : Bool) (x10_3 : Int), v9 = .bool x9_3 ∧ v10 = .int .i64 x10_3 ∧ Aside0 (merkhetref10_Of.l3 kq l0 x3_1 x7_2 x8_2 x9_3 x10_3 = some r) ∧ Aside0 (kq ≤ k2) ∧ Aside0 (Kd.R (Kd.int .i64) 3 w' w.heap.size (fun k_ => some k_ ≠ (u7 : Value).ownBlock) (.slice Ao18 x3_1.length co18) x3_1) ∧ Aside0 (Kd.R (Kd.int .i64) 3 w' w.heap.size (fun k_ => some k_ ≠ ((.slice Ao18 x3_1.length co18) : Value).ownBlock) u7 x7_2) ∧ Aside0 (Below w.heap.size w w'))
              case atStart => exact ⟨(t132), (x8_2), (by first | rfl | (simp; done) | (simp [*]; done)), (by first | rfl | (simp; done) | (simp [*]; done)), H', ⟨Nat.le_refl _⟩, ⟨by (with_reducible repeat (first | apply Kd.R_alloc | apply Kd.R_drewN | apply Kd.R_drew)); exact HO_3.out⟩, ⟨by (with_reducible repeat (first | apply Kd.R_alloc | apply Kd.R_drewN | apply Kd.R_drew)); exact HO_7.out⟩, ⟨by repeat (first | (with_reducible first | exact HB.out | apply below_alloc | apply pw_below_drewN | apply below_drew1) | exact HB.out)⟩⟩
              case round =>
                clear H'
                try clear c1
                try clear p1
                try clear q1
                try clear hx1
                try clear p2
                try clear c4
                try clear c4b0
                try clear c5
                try clear c5b0
                try clear c6
                try clear c6b0
                try clear p6
                try clear c7
                try clear c7b0
                try clear c8
                try clear c8b0
                try clear c8b1
                try clear c9
                try clear c9b0
                try clear c10
                try clear c10b0
                try clear c11
                try clear c11b0
                try clear c11b1
                try clear c12
                try clear p12
                try clear q12
                try clear hx12
                try clear c14
                try clear c16
                try clear c16b0
                try clear hx126_0
                try clear hx126_1
                try clear hx126_2
                try clear hx126_3
                try clear hx126_4
                try clear hx126_5
                try clear hx126_6
                try clear hx126_7
                try clear hx127_0
                try clear hx127_1
                try clear hx127_2
                try clear hx127_3
                try clear hx127_4
                try clear hx127_5
                try clear hx127_6
                try clear hx127_7
                try clear hx128_0
                try clear hx128_1
                try clear hx128_2
                try clear hx128_3
                try clear hx128_4
                try clear hx128_5
                try clear hx128_6
                try clear hx128_7
                try clear p1
                try clear p12
                try clear p126
                try clear p127
                try clear p128
                try clear p2
                try clear p6
                try clear q1
                try clear q12
                try clear q126
                try clear q127
                try clear q128
                obtain ⟨x9_3, x10_3, rfl, rfl, HA, HK3, HO_3, HO_7, HB⟩ := hrel
                cases gk with
                | zero => exact absurd HA.out (by simp [merkhetref10_Of.l3])
                | succ k3 =>
                  have H := HA.out
                  clear HA
                  simp only [merkhetref10_Of.l3] at H
                  have HC19 := Aside0.mk H
                  clear H
                  go_upto_region 18 with (fail)
                  repeat (go_quiet (fail); go_upto_region 18 with (fail))
                  go_cut [68] (fun v68 wc => ∃ (kq : Nat) (x68_18 : Bool), v68 = .bool x68_18 ∧ Aside0 (merkhetref10_Of.j4 kq l0 x3_1 x7_2 x8_2 x9_3 x10_3 x68_18 = some r) ∧ Aside0 (kq ≤ k3) ∧ Aside0 (Kd.R (Kd.int .i64) 3 wc w.heap.size (fun k_ => some k_ ≠ (u7 : Value).ownBlock) (.slice Ao18 x3_1.length co18) x3_1) ∧ Aside0 (Kd.R (Kd.int .i64) 3 wc w.heap.size (fun k_ => some k_ ≠ ((.slice Ao18 x3_1.length co18) : Value).ownBlock) u7 x7_2) ∧ Aside0 (Below w.heap.size w wc))
                  case first =>
                    have H := HC19.out
                    clear HC19
                    by_cases c20 : x9_3 = true
                    · subst c20
                      have H1 : (if 0 ≤ x10_3 then (if x10_3 < (x3_1.length : Int) then (merkhetref10_Of.j4 k3 l0 x3_1 x7_2 x8_2 true x10_3 ((rd x3_1 x10_3) != x8_2)) else (none)) else (none)) = some r := by rw [if_pos rfl] at H; exact H
                      clear H
                      have H := H1
                      clear H1
                      by_cases c21 : 0 ≤ x10_3
                      · rw [if_pos c21] at H
                        have c21b0 : decide (0 ≤ x10_3) = true := decide_eq_true c21
                        clear c21
                        (first | rw [c21b0] | (simp only [i64_w, i32_w]; rw [c21b0]) | skip)
                        by_cases c22 : x10_3 < (x3_1.length : Int)
                        · rw [if_pos c22] at H
                          have c22b0 : decide (x10_3 < (x3_1.length : Int)) = true := decide_eq_true c22
                          clear c22
                          have H' := Aside0.mk H
                          clear H
                          have p133 : 0 ≤ (x10_3 : Int) := of_decide_eq_true (by first | (with_reducible assumption) | assumption)
                          have q133 : x10_3 < (x3_1.length : Int) := of_decide_eq_true (by first | (with_reducible assumption) | assumption)
                          obtain ⟨ad133, e133, hx133_0⟩ := Kd.at_int (Kd.R_reads' HO_3.out).2.2 x10_3 p133 q133
                          cases e133
                          replace p133 := eq_true p133
                          replace q133 := eq_true q133
                          go_wp2
                          repeat (go_quiet (fail); try go_wp2)
                          go_meet
                          case rel => exact ⟨_, (((rd x3_1 x10_3) != x8_2)), (by first | rfl | (simp; done) | (simp [*]; done)), H', ⟨by have := HK1.out; have := HK2.out; have := HK3.out; first | omega | exact Nat.le_refl _⟩, ⟨by (with_reducible repeat (first | apply Kd.R_alloc | apply Kd.R_drewN | apply Kd.R_drew)); exact HO_3.out⟩, ⟨by (with_reducible repeat (first | apply Kd.R_alloc | apply Kd.R_drewN | apply Kd.R_drew)); exact HO_7.out⟩, ⟨by repeat (first | (with_reducible first | exact HB.out | apply below_alloc | apply pw_below_drewN | apply below_drew1) | exact HB.out)⟩⟩
                        · rw [if_neg c22] at H
                          exact absurd H (by simp)
                      · rw [if_neg c21] at H
                        exact absurd H (by simp)
                    · replace c20 := Bool.eq_false_iff.mpr c20
                      subst c20
                      have H1 : (merkhetref10_Of.j4 k3 l0 x3_1 x7_2 x8_2 false x10_3 false) = some r := by rw [if_neg (show ¬ (false = true) by decide)] at H; exact H
                      clear H
                      have H := H1
                      clear H1
                      have H' := Aside0.mk H
                      clear H
                      go_wp2
                      repeat (go_quiet (fail); try go_wp2)
                      go_meet
                      case rel => exact ⟨_, (false), (by first | rfl | (simp; done) | (simp [*]; done)), H', ⟨by have := HK1.out; have := HK2.out; have := HK3.out; first | omega | exact Nat.le_refl _⟩, ⟨by (with_reducible repeat (first | apply Kd.R_alloc | apply Kd.R_drewN | apply Kd.R_drew)); exact HO_3.out⟩, ⟨by (with_reducible repeat (first | apply Kd.R_alloc | apply Kd.R_drewN | apply Kd.R_drew)); exact HO_7.out⟩, ⟨by repeat (first | (with_reducible first | exact HB.out | apply below_alloc | apply pw_below_drewN | apply below_drew1) | exact HB.out)⟩⟩
                  case rest =>
                    clear HC19
                    try clear c1
                    try clear p1
                    try clear q1
                    try clear hx1
                    try clear c2
                    try clear p2
                    try clear c4
                    try clear c4b0
                    try clear c5
                    try clear c5b0
                    try clear c6
                    try clear c6b0
                    try clear p6
                    try clear c7
                    try clear c7b0
                    try clear c8
                    try clear c8b0
                    try clear c8b1
                    try clear c9
                    try clear c9b0
                    try clear c10
                    try clear c10b0
                    try clear c11
                    try clear c11b0
                    try clear c11b1
                    try clear c12
                    try clear p12
                    try clear q12
                    try clear hx12
                    try clear p13
                    try clear q13
                    try clear hx13
                    try clear c14
                    try clear c16
                    try clear c16b0
                    try clear c20
                    try clear c21
                    try clear c21b0
                    try clear c22
                    try clear c22b0
                    try clear hx126_0
                    try clear hx126_1
                    try clear hx126_2
                    try clear hx126_3
                    try clear hx126_4
                    try clear hx126_5
                    try clear hx126_6
                    try clear hx126_7
                    try clear hx127_0
                    try clear hx127_1
                    try clear hx127_2
                    try clear hx127_3
                    try clear hx127_4
                    try clear hx127_5
                    try clear hx127_6
                    try clear hx127_7
                    try clear hx128_0
                    try clear hx128_1
                    try clear hx128_2
                    try clear hx128_3
                    try clear hx128_4
                    try clear hx128_5
                    try clear hx128_6
                    try clear hx128_7
                    try clear hx133_0
                    try clear p1
                    try clear p12
                    try clear p126
                    try clear p127
                    try clear p128
                    try clear p133
                    try clear p2
                    try clear p6
                    try clear q1
                    try clear q12
                    try clear q126
                    try clear q127
                    try clear q128
                    try clear q133
                    obtain ⟨kq, x68_18, rfl, HA, HJ18, HO_3, HO_7, HB⟩ := hcut
                    cases kq with
                    | zero => exact absurd HA.out (by simp [merkhetref10_Of.j4])
                    | succ kj18 =>
                      have H := HA.out
                      clear HA
                      simp only [merkhetref10_Of.j4] at H
                      by_cases c23 : x68_18 = true
                      · subst c23
                        have H1 : (if 0 ≤ x10_3 then (if x10_3 < (x3_1.length : Int) then (if (rd x3_1 x10_3) < x8_2 then (merkhetref10_Of.l3 kj18 l0 x3_1 x7_2 x8_2 false (rd x3_1 x10_3)) else (merkhetref10_Of.l3 kj18 l0 x3_1 x7_2 x8_2 x9_3 (rd x3_1 x10_3))) else (none)) else (none)) = some r := by rw [if_pos rfl] at H; exact H
                        clear H
                        have H := H1
                        clear H1
                        by_cases c24 : 0 ≤ x10_3
                        · rw [if_pos c24] at H
                          have c24b0 : decide (0 ≤ x10_3) = true := decide_eq_true c24
                          clear c24
                          by_cases c25 : x10_3 < (x3_1.length : Int)
                          · rw [if_pos c25] at H
                            have c25b0 : decide (x10_3 < (x3_1.length : Int)) = true := decide_eq_true c25
                            clear c25
                            by_cases c26 : (rd x3_1 x10_3) < x8_2
                            · rw [if_pos c26] at H
                              have c26b0 : decide ((rd x3_1 x10_3) < x8_2) = true := decide_eq_true c26
                              clear c26
                              have H' := Aside0.mk H
                              clear H
                              have p134 : 0 ≤ (x10_3 : Int) := of_decide_eq_true (by first | (with_reducible assumption) | assumption)
                              have q134 : x10_3 < (x3_1.length : Int) := of_decide_eq_true (by first | (with_reducible assumption) | assumption)
                              obtain ⟨ad134, e134, hx134_0⟩ := Kd.at_int (Kd.R_reads' HO_3.out).2.2 x10_3 p134 q134
                              cases e134
                              replace p134 := eq_true p134
                              replace q134 := eq_true q134
                              go_wp2
                              repeat (go_quiet (fail); try go_wp2)
                              go_roundg kj18
                              case measure => have := HK1.out; have := HK2.out; have := HK3.out; have := HJ18.out; omega
                              case rel => exact ⟨(false), (rd x3_1 x10_3), (by first | rfl | (simp; done) | (simp [*]; done)), (by first | rfl | (simp; done) | (simp [*]; done)), H', ⟨by have := HK1.out; have := HK2.out; have := HK3.out; have := HJ18.out; omega⟩, ⟨by (with_reducible repeat (first | apply Kd.R_alloc | apply Kd.R_drewN | apply Kd.R_drew)); exact HO_3.out⟩, ⟨by (with_reducible repeat (first | apply Kd.R_alloc | apply Kd.R_drewN | apply Kd.R_drew)); exact HO_7.out⟩, ⟨by repeat (first | (with_reducible first | exact HB.out | apply below_alloc | apply pw_below_drewN | apply below_drew1) | exact HB.out)⟩⟩
                            · rw [if_neg c26] at H
                              have c26b0 : decide ((rd x3_1 x10_3) < x8_2) = false := decide_eq_false c26
                              clear c26
                              have H' := Aside0.mk H
                              clear H
                              have p134 : 0 ≤ (x10_3 : Int) := of_decide_eq_true (by first | (with_reducible assumption) | assumption)
                              have q134 : x10_3 < (x3_1.length : Int) := of_decide_eq_true (by first | (with_reducible assumption) | assumption)
                              obtain ⟨ad134, e134, hx134_0⟩ := Kd.at_int (Kd.R_reads' HO_3.out).2.2 x10_3 p134 q134
                              cases e134
                              replace p134 := eq_true p134
                              replace q134 := eq_true q134
                              go_wp2
                              repeat (go_quiet (fail); try go_wp2)
                              go_roundg kj18
                              case measure => have := HK1.out; have := HK2.out; have := HK3.out; have := HJ18.out; omega
                              case rel => exact ⟨(x9_3), (rd x3_1 x10_3), (by first | rfl | (simp; done) | (simp [*]; done)), (by first | rfl | (simp; done) | (simp [*]; done)), H', ⟨by have := HK1.out; have := HK2.out; have := HK3.out; have := HJ18.out; omega⟩, ⟨by (with_reducible repeat (first | apply Kd.R_alloc | apply Kd.R_drewN | apply Kd.R_drew)); exact HO_3.out⟩, ⟨by (with_reducible repeat (first | apply Kd.R_alloc | apply Kd.R_drewN | apply Kd.R_drew)); exact HO_7.out⟩, ⟨by repeat (first | (with_reducible first | exact HB.out | apply below_alloc | apply pw_below_drewN | apply below_drew1) | exact HB.out)⟩⟩
                          · rw [if_neg c25] at H
                            exact absurd H (by simp)
                        · rw [if_neg c24] at H
                          exact absurd H (by simp)
                      · replace c23 := Bool.eq_false_iff.mpr c23
                        subst c23
                        have H1 : (if x9_3 = true then (if x7_2.length < 17592186044416 then (merkhetref10_Of.l2 kj18 l0 x3_1 (x7_2 ++ [(-1)]) (wrap64 (x8_2 + 1))) else (none)) else (if 0 ≤ x8_2 then (if x8_2 < (x3_1.length : Int) then (if x7_2.length < 17592186044416 then (merkhetref10_Of.l2 kj18 l0 x3_1 (x7_2 ++ [rd x3_1 x8_2]) (wrap64 (x8_2 + 1))) else (none)) else (none)) else (none))) = some r := by rw [if_neg (show ¬ (false = true) by decide)] at H; exact H
                        clear H
                        have H := H1
                        clear H1
                        by_cases c27 : x9_3 = true
                        · subst c27
                          have H1 : (if x7_2.length < 17592186044416 then (merkhetref10_Of.l2 kj18 l0 x3_1 (x7_2 ++ [(-1)]) (wrap64 (x8_2 + 1))) else (none)) = some r := by rw [if_pos rfl] at H; exact H
                          clear H
                          have H := H1
                          clear H1
                          by_cases c28 : x7_2.length < 17592186044416
                          · rw [if_pos c28] at H
                            have LMc28 := Aside0.mk c28
                            clear c28
                            obtain ⟨y135, hy135⟩ : ∃ y_ : List Int, y_ = (x7_2 ++ [(-1)]) := ⟨_, rfl⟩
                            replace H : (merkhetref10_Of.l2 kj18 l0 x3_1 y135 (wrap64 (x8_2 + 1))) = some r := by first | (rw [hy135]; with_reducible exact H) | (have H2_ := (Option.bind_some _ _).symm.trans H; rw [hy135]; with_reducible exact H2_) | (have H2_ := (Option.bind_some _ _).symm.trans H; with_reducible exact H2_) | with_reducible exact H | (rw [hy135]; exact H) | exact H
                            have Ny135 := Aside0.mk hy135
                            clear hy135
                            have H' := Aside0.mk H
                            clear H
                            go_wp2_with (first | ((with_reducible refine gate_builtin (b := .append) (xs := #[.tmp 77, .tmp 78]) rfl ?_); at_builtin; refine Kd.R_append (Kd.int .i64) (w0 := w) w.heap.size rfl (.tmp 77) (.tmp 78) 27 3 (.int .i64 0) 8 rfl Try.underlying27 info3 rfl (by decide) (by omega) u7 x7_2 (-1) [.int .i64 (-1)] (fun k_ => some k_ ≠ (.slice Ao18 x3_1.length co18 : Value).ownBlock) (fun _ => False) rfl rfl ?aP (fun _ hk => hk.elim) ?aF ?aO ?aB ?aS ?aL ?_; (case aP => exact rfl); (case aB => exact (by repeat (first | (with_reducible first | exact HB.out | apply below_alloc | apply pw_below_drewN | apply below_drew1) | exact HB.out))); (case aF => exact (fun k_ hk => Kd.fresh' (Kd.R_lt (by (with_reducible repeat (first | apply Kd.R_alloc | apply Kd.R_drewN | apply Kd.R_drew)); exact HO_3.out)) k_ hk)); (case aO => exact (by (with_reducible repeat (first | apply Kd.R_alloc | apply Kd.R_drewN | apply Kd.R_drew)); exact HO_7.out)); (case aS => exact (below_size (by repeat (first | (with_reducible first | exact HB.out | apply below_alloc | apply pw_below_drewN | apply below_drew1) | exact HB.out)))); (case aL => have := LMc28.out; omega); intro v136 w29 ho hb hg hat; rw [← Ny135.out] at ho; have n0_ := Aside0.mk (Kd.R_after (ok := (fun _ => True)) (by (with_reducible repeat (first | apply Kd.R_alloc | apply Kd.R_drewN | apply Kd.R_drew)); exact Kd.R_mono HO_3.out (fun _ hk => ⟨trivial, by first | exact hk | exact fun h_ => hk (h_.trans (own_len _ _ _ _ _))⟩)) hg hat); have n1_ := Aside0.mk (hb); have n2_ := Aside0.mk (ho); clear HO_3; clear HB; clear HO_7; have HO_3 := n0_; have HB := n1_; have HO137 := n2_; clear n0_ n1_ n2_; clear ho hb hg hat))
                            repeat (go_quiet (first | ((with_reducible refine gate_builtin (b := .append) (xs := #[.tmp 77, .tmp 78]) rfl ?_); at_builtin; refine Kd.R_append (Kd.int .i64) (w0 := w) w.heap.size rfl (.tmp 77) (.tmp 78) 27 3 (.int .i64 0) 8 rfl Try.underlying27 info3 rfl (by decide) (by omega) u7 x7_2 (-1) [.int .i64 (-1)] (fun k_ => some k_ ≠ (.slice Ao18 x3_1.length co18 : Value).ownBlock) (fun _ => False) rfl rfl ?aP (fun _ hk => hk.elim) ?aF ?aO ?aB ?aS ?aL ?_; (case aP => exact rfl); (case aB => exact (by repeat (first | (with_reducible first | exact HB.out | apply below_alloc | apply pw_below_drewN | apply below_drew1) | exact HB.out))); (case aF => exact (fun k_ hk => Kd.fresh' (Kd.R_lt (by (with_reducible repeat (first | apply Kd.R_alloc | apply Kd.R_drewN | apply Kd.R_drew)); exact HO_3.out)) k_ hk)); (case aO => exact (by (with_reducible repeat (first | apply Kd.R_alloc | apply Kd.R_drewN | apply Kd.R_drew)); exact HO_7.out)); (case aS => exact (below_size (by repeat (first | (with_reducible first | exact HB.out | apply below_alloc | apply pw_below_drewN | apply below_drew1) | exact HB.out)))); (case aL => have := LMc28.out; omega); intro v136 w29 ho hb hg hat; rw [← Ny135.out] at ho; have n0_ := Aside0.mk (Kd.R_after (ok := (fun _ => True)) (by (with_reducible repeat (first | apply Kd.R_alloc | apply Kd.R_drewN | apply Kd.R_drew)); exact Kd.R_mono HO_3.out (fun _ hk => ⟨trivial, by first | exact hk | exact fun h_ => hk (h_.trans (own_len _ _ _ _ _))⟩)) hg hat); have n1_ := Aside0.mk (hb); have n2_ := Aside0.mk (ho); clear HO_3; clear HB; clear HO_7; have HO_3 := n0_; have HB := n1_; have HO137 := n2_; clear n0_ n1_ n2_; clear ho hb hg hat)); try go_wp2_with (first | ((with_reducible refine gate_builtin (b := .append) (xs := #[.tmp 77, .tmp 78]) rfl ?_); at_builtin; refine Kd.R_append (Kd.int .i64) (w0 := w) w.heap.size rfl (.tmp 77) (.tmp 78) 27 3 (.int .i64 0) 8 rfl Try.underlying27 info3 rfl (by decide) (by omega) u7 x7_2 (-1) [.int .i64 (-1)] (fun k_ => some k_ ≠ (.slice Ao18 x3_1.length co18 : Value).ownBlock) (fun _ => False) rfl rfl ?aP (fun _ hk => hk.elim) ?aF ?aO ?aB ?aS ?aL ?_; (case aP => exact rfl); (case aB => exact (by repeat (first | (with_reducible first | exact HB.out | apply below_alloc | apply pw_below_drewN | apply below_drew1) | exact HB.out))); (case aF => exact (fun k_ hk => Kd.fresh' (Kd.R_lt (by (with_reducible repeat (first | apply Kd.R_alloc | apply Kd.R_drewN | apply Kd.R_drew)); exact HO_3.out)) k_ hk)); (case aO => exact (by (with_reducible repeat (first | apply Kd.R_alloc | apply Kd.R_drewN | apply Kd.R_drew)); exact HO_7.out)); (case aS => exact (below_size (by repeat (first | (with_reducible first | exact HB.out | apply below_alloc | apply pw_below_drewN | apply below_drew1) | exact HB.out)))); (case aL => have := LMc28.out; omega); intro v136 w29 ho hb hg hat; rw [← Ny135.out] at ho; have n0_ := Aside0.mk (Kd.R_after (ok := (fun _ => True)) (by (with_reducible repeat (first | apply Kd.R_alloc | apply Kd.R_drewN | apply Kd.R_drew)); exact Kd.R_mono HO_3.out (fun _ hk => ⟨trivial, by first | exact hk | exact fun h_ => hk (h_.trans (own_len _ _ _ _ _))⟩)) hg hat); have n1_ := Aside0.mk (hb); have n2_ := Aside0.mk (ho); clear HO_3; clear HB; clear HO_7; have HO_3 := n0_; have HB := n1_; have HO137 := n2_; clear n0_ n1_ n2_; clear ho hb hg hat)))
                            go_roundg kj18
                            case measure => have := HK1.out; have := HK2.out; have := HK3.out; have := HJ18.out; omega
                            case rel => exact ⟨(y135), (wrap64 (x8_2 + 1)), (by first | rfl | (simp; done) | (simp [*]; done)), H', ⟨by have := HK1.out; have := HK2.out; have := HK3.out; have := HJ18.out; omega⟩, ⟨by (with_reducible repeat (first | apply Kd.R_alloc | apply Kd.R_drewN | apply Kd.R_drew)); exact Kd.R_mono HO_3.out (fun _ hk => hk.2)⟩, ⟨by (with_reducible repeat (first | apply Kd.R_alloc | apply Kd.R_drewN | apply Kd.R_drew)); exact HO137.out⟩, ⟨by repeat (first | (with_reducible first | exact HB.out | apply below_alloc | apply pw_below_drewN | apply below_drew1) | exact HB.out)⟩⟩
                          · rw [if_neg c28] at H
                            exact absurd H (by simp)
                        · replace c27 := Bool.eq_false_iff.mpr c27
                          subst c27
                          have H1 : (if 0 ≤ x8_2 then (if x8_2 < (x3_1.length : Int) then (if x7_2.length < 17592186044416 then (merkhetref10_Of.l2 kj18 l0 x3_1 (x7_2 ++ [rd x3_1 x8_2]) (wrap64 (x8_2 + 1))) else (none)) else (none)) else (none)) = some r := by rw [if_neg (show ¬ (false = true) by decide)] at H; exact H
                          clear H
                          have H := H1
                          clear H1
                          by_cases c30 : 0 ≤ x8_2
                          · rw [if_pos c30] at H
                            have c30b0 : decide (0 ≤ x8_2) = true := decide_eq_true c30
                            clear c30
                            by_cases c31 : x8_2 < (x3_1.length : Int)
                            · rw [if_pos c31] at H
                              have c31b0 : decide (x8_2 < (x3_1.length : Int)) = true := decide_eq_true c31
                              clear c31
                              by_cases c32 : x7_2.length < 17592186044416
                              · rw [if_pos c32] at H
                                have LMc32 := Aside0.mk c32
                                clear c32
                                obtain ⟨y139, hy139⟩ : ∃ y_ : List Int, y_ = (x7_2 ++ [rd x3_1 x8_2]) := ⟨_, rfl⟩
                                replace H : (merkhetref10_Of.l2 kj18 l0 x3_1 y139 (wrap64 (x8_2 + 1))) = some r := by first | (rw [hy139]; with_reducible exact H) | (have H2_ := (Option.bind_some _ _).symm.trans H; rw [hy139]; with_reducible exact H2_) | (have H2_ := (Option.bind_some _ _).symm.trans H; with_reducible exact H2_) | with_reducible exact H | (rw [hy139]; exact H) | exact H
                                have Ny139 := Aside0.mk hy139
                                clear hy139
                                have H' := Aside0.mk H
                                clear H
                                have p138 : 0 ≤ (x8_2 : Int) := of_decide_eq_true (by first | (with_reducible assumption) | assumption)
                                have q138 : x8_2 < (x3_1.length : Int) := of_decide_eq_true (by first | (with_reducible assumption) | assumption)
                                obtain ⟨ad138, e138, hx138_0⟩ := Kd.at_int (Kd.R_reads' HO_3.out).2.2 x8_2 p138 q138
                                cases e138
                                replace p138 := eq_true p138
                                replace q138 := eq_true q138
                                go_wp2_with (first | ((with_reducible refine gate_builtin (b := .append) (xs := #[.tmp 80, .tmp 85]) rfl ?_); at_builtin; refine Kd.R_append (Kd.int .i64) (w0 := w) w.heap.size rfl (.tmp 80) (.tmp 85) 27 3 (.int .i64 0) 8 rfl Try.underlying27 info3 rfl (by decide) (by omega) u7 x7_2 (rd x3_1 x8_2) [.int .i64 (rd x3_1 x8_2)] (fun k_ => some k_ ≠ (.slice (some ad138) x3_1.length co18 : Value).ownBlock) (fun _ => False) rfl rfl ?aP (fun _ hk => hk.elim) ?aF ?aO ?aB ?aS ?aL ?_; (case aP => exact rfl); (case aB => exact (by repeat (first | (with_reducible first | exact HB.out | apply below_alloc | apply pw_below_drewN | apply below_drew1) | exact HB.out))); (case aF => exact (fun k_ hk => Kd.fresh' (Kd.R_lt (by (with_reducible repeat (first | apply Kd.R_alloc | apply Kd.R_drewN | apply Kd.R_drew)); exact HO_3.out)) k_ hk)); (case aO => exact (by (with_reducible repeat (first | apply Kd.R_alloc | apply Kd.R_drewN | apply Kd.R_drew)); exact HO_7.out)); (case aS => exact (below_size (by repeat (first | (with_reducible first | exact HB.out | apply below_alloc | apply pw_below_drewN | apply below_drew1) | exact HB.out)))); (case aL => have := LMc32.out; omega); intro v140 w33 ho hb hg hat; rw [← Ny139.out] at ho; have n0_ := Aside0.mk (Kd.R_after (ok := (fun _ => True)) (by (with_reducible repeat (first | apply Kd.R_alloc | apply Kd.R_drewN | apply Kd.R_drew)); exact Kd.R_mono HO_3.out (fun _ hk => ⟨trivial, by first | exact hk | exact fun h_ => hk (h_.trans (own_len _ _ _ _ _))⟩)) hg hat); have n1_ := Aside0.mk (hb); have n2_ := Aside0.mk (ho); clear HO_3; clear HB; clear HO_7; have HO_3 := n0_; have HB := n1_; have HO141 := n2_; clear n0_ n1_ n2_; clear ho hb hg hat))
                                repeat (go_quiet (first | ((with_reducible refine gate_builtin (b := .append) (xs := #[.tmp 80, .tmp 85]) rfl ?_); at_builtin; refine Kd.R_append (Kd.int .i64) (w0 := w) w.heap.size rfl (.tmp 80) (.tmp 85) 27 3 (.int .i64 0) 8 rfl Try.underlying27 info3 rfl (by decide) (by omega) u7 x7_2 (rd x3_1 x8_2) [.int .i64 (rd x3_1 x8_2)] (fun k_ => some k_ ≠ (.slice (some ad138) x3_1.length co18 : Value).ownBlock) (fun _ => False) rfl rfl ?aP (fun _ hk => hk.elim) ?aF ?aO ?aB ?aS ?aL ?_; (case aP => exact rfl); (case aB => exact (by repeat (first | (with_reducible first | exact HB.out | apply below_alloc | apply pw_below_drewN | apply below_drew1) | exact HB.out))); (case aF => exact (fun k_ hk => Kd.fresh' (Kd.R_lt (by (with_reducible repeat (first | apply Kd.R_alloc | apply Kd.R_drewN | apply Kd.R_drew)); exact HO_3.out)) k_ hk)); (case aO => exact (by (with_reducible repeat (first | apply Kd.R_alloc | apply Kd.R_drewN | apply Kd.R_drew)); exact HO_7.out)); (case aS => exact (below_size (by repeat (first | (with_reducible first | exact HB.out | apply below_alloc | apply pw_below_drewN | apply below_drew1) | exact HB.out)))); (case aL => have := LMc32.out; omega); intro v140 w33 ho hb hg hat; rw [← Ny139.out] at ho; have n0_ := Aside0.mk (Kd.R_after (ok := (fun _ => True)) (by (with_reducible repeat (first | apply Kd.R_alloc | apply Kd.R_drewN | apply Kd.R_drew)); exact Kd.R_mono HO_3.out (fun _ hk => ⟨trivial, by first | exact hk | exact fun h_ => hk (h_.trans (own_len _ _ _ _ _))⟩)) hg hat); have n1_ := Aside0.mk (hb); have n2_ := Aside0.mk (ho); clear HO_3; clear HB; clear HO_7; have HO_3 := n0_; have HB := n1_; have HO141 := n2_; clear n0_ n1_ n2_; clear ho hb hg hat)); try go_wp2_with (first | ((with_reducible refine gate_builtin (b := .append) (xs := #[.tmp 80, .tmp 85]) rfl ?_); at_builtin; refine Kd.R_append (Kd.int .i64) (w0 := w) w.heap.size rfl (.tmp 80) (.tmp 85) 27 3 (.int .i64 0) 8 rfl Try.underlying27 info3 rfl (by decide) (by omega) u7 x7_2 (rd x3_1 x8_2) [.int .i64 (rd x3_1 x8_2)] (fun k_ => some k_ ≠ (.slice (some ad138) x3_1.length co18 : Value).ownBlock) (fun _ => False) rfl rfl ?aP (fun _ hk => hk.elim) ?aF ?aO ?aB ?aS ?aL ?_; (case aP => exact rfl); (case aB => exact (by repeat (first | (with_reducible first | exact HB.out | apply below_alloc | apply pw_below_drewN | apply below_drew1) | exact HB.out))); (case aF => exact (fun k_ hk => Kd.fresh' (Kd.R_lt (by (with_reducible repeat (first | apply Kd.R_alloc | apply Kd.R_drewN | apply Kd.R_drew)); exact HO_3.out)) k_ hk)); (case aO => exact (by (with_reducible repeat (first | apply Kd.R_alloc | apply Kd.R_drewN | apply Kd.R_drew)); exact HO_7.out)); (case aS => exact (below_size (by repeat (first | (with_reducible first | exact HB.out | apply below_alloc | apply pw_below_drewN | apply below_drew1) | exact HB.out)))); (case aL => have := LMc32.out; omega); intro v140 w33 ho hb hg hat; rw [← Ny139.out] at ho; have n0_ := Aside0.mk (Kd.R_after (ok := (fun _ => True)) (by (with_reducible repeat (first | apply Kd.R_alloc | apply Kd.R_drewN | apply Kd.R_drew)); exact Kd.R_mono HO_3.out (fun _ hk => ⟨trivial, by first | exact hk | exact fun h_ => hk (h_.trans (own_len _ _ _ _ _))⟩)) hg hat); have n1_ := Aside0.mk (hb); have n2_ := Aside0.mk (ho); clear HO_3; clear HB; clear HO_7; have HO_3 := n0_; have HB := n1_; have HO141 := n2_; clear n0_ n1_ n2_; clear ho hb hg hat)))
                                go_roundg kj18
                                case measure => have := HK1.out; have := HK2.out; have := HK3.out; have := HJ18.out; omega
                                case rel => exact ⟨(y139), (wrap64 (x8_2 + 1)), (by first | rfl | (simp; done) | (simp [*]; done)), H', ⟨by have := HK1.out; have := HK2.out; have := HK3.out; have := HJ18.out; omega⟩, ⟨by (with_reducible repeat (first | apply Kd.R_alloc | apply Kd.R_drewN | apply Kd.R_drew)); exact Kd.R_mono HO_3.out (fun _ hk => hk.2)⟩, ⟨by (with_reducible repeat (first | apply Kd.R_alloc | apply Kd.R_drewN | apply Kd.R_drew)); exact HO141.out⟩, ⟨by repeat (first | (with_reducible first | exact HB.out | apply below_alloc | apply pw_below_drewN | apply below_drew1) | exact HB.out)⟩⟩
                              · rw [if_neg c32] at H
                                exact absurd H (by simp)
                            · rw [if_neg c31] at H
                              exact absurd H (by simp)
                          · rw [if_neg c30] at H
                            exact absurd H (by simp)
            · rw [if_neg c16] at H
              have c16b0 : decide (x8_2 < (l0.length : Int)) = false := decide_eq_false c16
              clear c16
              obtain rfl := Option.some.inj H
              go_wp2
              repeat (go_quiet (fail); try go_wp2)
              go_ret
              exact ⟨_, by first | rfl | (simp [errW_none, errW_some] <;> rfl) | (simp [*, errW_none, errW_some] <;> rfl), by (with_reducible repeat (first | apply Kd.R_alloc | apply Kd.R_drewN | apply Kd.R_drew)); exact Kd.R_mono HO_7.out (fun _ hk => trivial), by repeat (first | (with_reducible first | exact HB.out | apply below_alloc | apply pw_below_drewN | apply below_drew1) | exact HB.out)⟩

end Go.Proofs.Ytjgpggjjgimibaa.Q

/- The document's parents, as a plain list. -/
namespace Go.Proofs.Ytjgpggjjgimibaa.L
open Go.RowKit Go.Proofs.Ytjgpggjjgimibaa.Q Go.Proofs.YtjgpggjjgimibaaW.PrintWords Go.Proofs.YtjgpggjjgimibaaW.PrintLast Go.Proofs.YtjgpggjjgimibaaW.PrintMore Go.Proofs.YtjgpggjjgimibaaW.Lib
set_option linter.unusedVariables false

/-- So many parents up. -/
def upP (ps : List Int) (at_ : Int) : Nat → Int
  | 0 => at_
  | n + 1 => if at_ ≥ 0 then upP ps (rd ps at_) n else at_
def inP (n : Nat) (ps : List Int) : Prop := ∀ x ∈ ps, -1 ≤ x ∧ x < n
theorem inP_rd {ps : List Int} (h : inP ps.length ps) (x : Int) (h0 : 0 ≤ x) (h1 : x < ps.length) : -1 ≤ rd ps x ∧ rd ps x < ps.length := by
  have hx : x.toNat < ps.length := by omega
  have e : rd ps x = ps[x.toNat] := by simp [rd, List.getD, hx]
  rw [e]
  exact h _ (List.getElem_mem hx)
theorem up_ev (ps : List Int) (hp : inP ps.length ps) (n : Nat) (hn : n ≤ 1000000000) : ∀ (d i : Nat) (a : Int), n - i = d → i ≤ n → -1 ≤ a → a < ps.length → Ev (fun k => merkhetref10_up.l0 k ps a (n : Int) (i : Int)) (upP ps a d) := by
  intro d
  induction d with
  | zero =>
    intro i a hd hi h0 h1
    refine Ev.succ ?_
    simp only [merkhetref10_up.l0]
    exact Ev.neg (by omega) (Ev.now _)
  | succ d ih =>
    intro i a hd hi h0 h1
    refine Ev.succ ?_
    simp only [merkhetref10_up.l0]
    refine Ev.pos (by omega) ?_
    by_cases h : a ≥ 0
    · have hr := inP_rd hp a h h1
      have h2 := ih (i + 1) (rd ps a) (by omega) (by omega) hr.1 hr.2
      refine Ev.pos h (Ev.pos h (Ev.pos h1 ?_))
      rw [wrap_id (by omega) (by omega)]
      exact Ev.cast h2 (by simp only [upP]; rw [if_pos h])
    · exact Ev.neg h (Ev.cast (Ev.now _) (by simp only [upP]; rw [if_neg h]))
theorem upf_ev (ps : List Int) (hp : inP ps.length ps) (n : Nat) (hn : n ≤ 1000000000) (a : Int) (h0 : -1 ≤ a) (h1 : a < ps.length) : Ev (fun k => merkhetref10_up.f k ps a (n : Int)) (upP ps a n) := up_ev ps hp n hn n 0 a (by omega) (by omega) h0 h1
/-- Is a place on a cycle? -/
def onP (ps : List Int) (a : Int) : Bool := (List.range ps.length).any (fun n => decide (upP ps a (n + 1) = a))
theorem on_ev (ps : List Int) (hl : ps.length ≤ 1000000) (hp : inP ps.length ps) (a : Int) (h0 : -1 ≤ a) (h1 : a < ps.length) : Ev (fun k => merkhetref10_on.f k ps a) (onP ps a) := by
  unfold merkhetref10_on.f
  have key : ∀ (d i : Nat), ps.length - i = d → i ≤ ps.length → Ev (fun k => merkhetref10_on.l0 k ps a ((i : Int) + 1)) ((List.range' i d).any (fun n => decide (upP ps a (n + 1) = a))) := by
    intro d
    induction d with
    | zero =>
      intro i hd hi
      refine Ev.succ ?_
      simp only [merkhetref10_on.l0]
      exact Ev.neg (by omega) (Ev.now _)
    | succ d ih =>
      intro i hd hi
      have h2 := ih (i + 1) (by omega) (by omega)
      have h3 := upf_ev ps hp (i + 1) (by omega) a h0 h1
      refine Ev.succ ?_
      simp only [merkhetref10_on.l0]
      refine Ev.pos (by omega) (Ev.bind h3 (Ev.ite (fun h => ?_) (fun h => ?_)))
      · refine Ev.cast (Ev.now _) ?_
        rw [List.range'_succ, List.any_cons, decide_eq_true h]; rfl
      · rw [wrap_id (by omega) (by omega)]
        refine Ev.cast h2 ?_
        rw [List.range'_succ, List.any_cons, decide_eq_false h]; rfl
  have := key ps.length 0 (by omega) (by omega)
  refine Ev.cast this ?_
  unfold onP
  rw [List.range_eq_range']
/-- The least place, from so many down, whose ID it is. -/
def scanD (l : List S42) (id : Int) : Nat → Int → Int
  | 0, p => p
  | j + 1, p => scanD l id j (if id ≠ 0 ∧ (rd_T42 l j).f1 = id then (j : Int) else p)
theorem scanD_in (l : List S42) (id : Int) : ∀ (j : Nat) (p : Int), j ≤ l.length → -1 ≤ p → p < l.length → -1 ≤ scanD l id j p ∧ scanD l id j p < l.length
  | 0, p, _, h0, h1 => ⟨h0, h1⟩
  | j + 1, p, hj, h0, h1 => by
    simp only [scanD]
    split
    · exact scanD_in l id j _ (by omega) (by omega) (by omega)
    · exact scanD_in l id j _ (by omega) h0 h1
def rawL (l : List S42) : List Int := l.map (fun s => scanD l s.f2 l.length (-1))
theorem rawL_length (l : List S42) : (rawL l).length = l.length := by simp [rawL]
theorem rawL_in (l : List S42) (h : 0 < l.length ∨ l.length = 0) : inP l.length (rawL l) := by
  intro x hx
  obtain ⟨s, hs, rfl⟩ := List.mem_map.1 hx
  exact scanD_in l s.f2 l.length (-1) (by omega) (by omega) (by omega)
/-- Is a place the least of its cycle? From a place on, so many steps. -/
def loL (ps : List Int) (i : Int) : Nat → Int → Bool
  | 0, _ => true
  | f + 1, a => if rd ps a = i then true else if rd ps a < i then false else loL ps i f (rd ps a)
def parAt (ps : List Int) (i : Int) : Int := if (onP ps i && loL ps i ps.length i) = true then -1 else rd ps i
def parL (l : List S42) : List Int := (List.range l.length).map (fun i : Nat => parAt (rawL l) i)
theorem parL_length (l : List S42) : (parL l).length = l.length := by simp [parL]
theorem par_ev (l : List S42) (hl : l.length ≤ 1000000) : Ev (fun k => merkhetref10_Of.f k l) (parL l) := by
  have hpl := rawL_length l
  have hpi : inP (rawL l).length (rawL l) := by rw [hpl]; exact rawL_in l (by omega)
  unfold merkhetref10_Of.f
  have two : ∀ (d i : Nat), l.length - i = d → i ≤ l.length → Ev (fun k => merkhetref10_Of.l2 k l (rawL l) ((parL l).take i) (i : Int)) (parL l) := by
    intro d
    induction d with
    | zero =>
      intro i hd hi
      refine Ev.succ ?_
      simp only [merkhetref10_Of.l2]
      refine Ev.neg (by omega) (Ev.cast (Ev.now _) ?_)
      rw [List.take_of_length_le (by rw [parL_length]; omega)]
    | succ d ih =>
      intro i hd hi
      have hlt : i < l.length := by omega
      have h2 := ih (i + 1) (by omega) (by omega)
      have hnext : (parL l).take (i + 1) = (parL l).take i ++ [parAt (rawL l) i] := by
        rw [List.take_succ_eq_append_getElem (by rw [parL_length]; omega)]
        simp [parL]
      have ho := on_ev (rawL l) (by omega) hpi i (by omega) (by omega)
      have htl : ((parL l).take i).length ≤ l.length := by rw [List.length_take, parL_length]; omega
      have done0 : ∀ (b : Bool) (a : Int), (if b = true then (-1 : Int) else rd (rawL l) i) = parAt (rawL l) i → Ev (fun k => merkhetref10_Of.j4 k l (rawL l) ((parL l).take i) (i : Int) b a false) (parL l) := by
        intro b a hb
        refine Ev.succ ?_
        simp only [merkhetref10_Of.j4]
        refine Ev.neg (by simp) ?_
        rw [wrap_id (by omega) (by omega)]
        cases b with
        | true =>
          refine Ev.pos rfl (Ev.pos (by omega) ?_)
          rw [if_pos rfl] at hb
          rw [hb, ← hnext]; exact h2
        | false =>
          refine Ev.neg (by simp) (Ev.pos (by omega) (Ev.pos (by omega) (Ev.pos (by omega) ?_)))
          rw [if_neg (by simp)] at hb
          rw [hb, ← hnext]; exact h2
      have off : parAt (rawL l) i = rd (rawL l) i → ∀ a, Ev (fun k => merkhetref10_Of.l3 k l (rawL l) ((parL l).take i) (i : Int) false a) (parL l) := by
        intro hb a
        refine Ev.succ ?_
        simp only [merkhetref10_Of.l3]
        exact Ev.neg (by simp) (done0 false a (by rw [if_neg (by simp), hb]))
      refine Ev.succ ?_
      simp only [merkhetref10_Of.l2]
      refine Ev.pos (by omega) (Ev.bind ho ?_)
      cases hon : onP (rawL l) i with
      | false =>
        refine off ?_ _
        unfold parAt; rw [hon]; simp
      | true =>
        -- the walk round the cycle
        have round : ∀ (n : Nat) (f : Nat) (a : Int), n < f → 0 ≤ a → a < (rawL l).length → upP (rawL l) a (n + 1) = i → (onP (rawL l) i && loL (rawL l) i (rawL l).length i) = loL (rawL l) i f a → Ev (fun k => merkhetref10_Of.l3 k l (rawL l) ((parL l).take i) (i : Int) true a) (parL l) := by
          intro n
          induction n with
          | zero =>
            intro f a hf h0 h1 hu he
            obtain ⟨f, rfl⟩ : ∃ g, f = g + 1 := ⟨f - 1, by omega⟩
            have hu2 : rd (rawL l) a = i := by simp only [upP] at hu; rw [if_pos h0] at hu; exact hu
            have hv : parAt (rawL l) i = -1 := by
              have hL : loL (rawL l) (i : Int) (f + 1) a = true := by simp only [loL]; rw [if_pos hu2]
              unfold parAt; rw [he, hL]; rfl
            refine Ev.succ ?_
            simp only [merkhetref10_Of.l3]
            refine Ev.pos trivial (Ev.pos h0 (Ev.pos h1 ?_))
            rw [hu2, bne_self_eq_false]
            exact done0 true a (by rw [if_pos rfl, hv])
          | succ n ihn =>
            intro f a hf h0 h1 hu he
            obtain ⟨f, rfl⟩ : ∃ g, f = g + 1 := ⟨f - 1, by omega⟩
            by_cases hu2 : rd (rawL l) a = i
            · have hv : parAt (rawL l) i = -1 := by
                have hL : loL (rawL l) (i : Int) (f + 1) a = true := by simp only [loL]; rw [if_pos hu2]
                unfold parAt; rw [he, hL]; rfl
              refine Ev.succ ?_
              simp only [merkhetref10_Of.l3]
              refine Ev.pos trivial (Ev.pos h0 (Ev.pos h1 ?_))
              rw [hu2, bne_self_eq_false]
              exact done0 true a (by rw [if_pos rfl, hv])
            · refine Ev.succ ?_
              simp only [merkhetref10_Of.l3]
              refine Ev.pos trivial (Ev.pos h0 (Ev.pos h1 ?_))
              rw [show (rd (rawL l) a != (i : Int)) = true from by simp [hu2]]
              refine Ev.succ ?_
              simp only [merkhetref10_Of.j4]
              refine Ev.pos trivial (Ev.pos h0 (Ev.pos h1 (Ev.ite (fun h => ?_) (fun h => ?_))))
              · refine off ?_ _
                have hL : loL (rawL l) (i : Int) (f + 1) a = false := by simp only [loL]; rw [if_neg hu2, if_pos h]
                unfold parAt; rw [he, hL]; rfl
              · have hb := inP_rd hpi a h0 h1
                refine ihn f (rd (rawL l) a) (by omega) (by omega) hb.2 ?_ ?_
                · rw [← hu]; rw [show upP (rawL l) a (n + 1 + 1) = if a ≥ 0 then upP (rawL l) (rd (rawL l) a) (n + 1) else a from rfl, if_pos h0]
                · rw [he]; simp only [loL]; rw [if_neg hu2, if_neg h]
        have hon2 := hon
        unfold onP at hon2
        obtain ⟨n, hn, hn2⟩ := List.any_eq_true.1 hon2
        exact round n (rawL l).length i (List.mem_range.1 hn) (by omega) (by omega) (of_decide_eq_true hn2) (by rw [hon]; rfl)
  have one : ∀ (d i : Nat), l.length - i = d → i ≤ l.length → Ev (fun k => merkhetref10_Of.l0 k l ((rawL l).take i) (i : Int)) (parL l) := by
    intro d
    induction d with
    | zero =>
      intro i hd hi
      refine Ev.succ ?_
      simp only [merkhetref10_Of.l0]
      rw [List.take_of_length_le (by omega)]
      exact Ev.neg (by omega) (two l.length 0 (by omega) (by omega))
    | succ d ih =>
      intro i hd hi
      have hlt : i < l.length := by omega
      have h2 := ih (i + 1) (by omega) (by omega)
      have hr : rd_T42 l (i : Int) = l[i] := by simp [rd_T42, List.getD, hlt]
      have hnext : (rawL l).take (i + 1) = (rawL l).take i ++ [scanD l (rd_T42 l (i : Int)).f2 l.length (-1)] := by
        rw [List.take_succ_eq_append_getElem (by omega), hr]
        simp [rawL]
      have scan : ∀ (j : Nat) (p : Int), j ≤ l.length → scanD l (rd_T42 l (i : Int)).f2 j p = scanD l (rd_T42 l (i : Int)).f2 l.length (-1) → Ev (fun k => merkhetref10_Of.l1 k l ((rawL l).take i) (i : Int) p ((j : Int) - 1)) (parL l) := by
        intro j
        induction j with
        | zero =>
          intro p hj he
          simp only [scanD] at he
          refine Ev.succ ?_
          simp only [merkhetref10_Of.l1]
          refine Ev.neg (by omega) (Ev.pos ?_ ?_)
          · rw [List.length_take]; omega
          · rw [he, wrap_id (by omega) (by omega), ← hnext]; exact h2
        | succ j ihj =>
          intro p hj he
          have e1 : ((j + 1 : Nat) : Int) - 1 = (j : Int) := by omega
          rw [e1]
          refine Ev.succ ?_
          simp only [merkhetref10_Of.l1]
          refine Ev.pos (by omega) (Ev.pos (by omega) (Ev.pos (by omega) ?_))
          rw [wrap_id (i := (j : Int) - 1) (by omega) (by omega)]
          simp only [scanD] at he
          by_cases hz : (rd_T42 l (i : Int)).f2 = 0
          · rw [if_neg (fun h => h.1 hz)] at he
            exact Ev.pos hz (ihj p (by omega) he)
          · refine Ev.neg hz (Ev.pos (by omega) (Ev.pos (by omega) (Ev.ite (fun h => ?_) (fun h => ?_))))
            · rw [if_pos ⟨hz, h⟩] at he
              exact ihj _ (by omega) he
            · rw [if_neg (fun h' => h h'.2)] at he
              exact ihj _ (by omega) he
      refine Ev.succ ?_
      simp only [merkhetref10_Of.l0]
      refine Ev.pos (by omega) ?_
      rw [wrap_id (by omega) (by omega)]
      exact scan l.length (-1) (by omega) rfl
  exact one l.length 0 (by omega) (by omega)
end Go.Proofs.Ytjgpggjjgimibaa.L

/- The document's pairs and edges, as plain lists. -/
namespace Go.Proofs.Ytjgpggjjgimibaa.L
open Go.RowKit Go.Proofs.Ytjgpggjjgimibaa.Q Go.Proofs.YtjgpggjjgimibaaW.PrintWords Go.Proofs.YtjgpggjjgimibaaW.PrintLast Go.Proofs.YtjgpggjjgimibaaW.PrintMore Go.Proofs.YtjgpggjjgimibaaW.Lib
set_option linter.unusedVariables false

instance (n : Nat) : DecidablePred (inP n) := fun ps => by unfold inP; infer_instance
/-- The pair of a place, if there is one. -/
def pairAt (l : List S42) (ps : List Int) (i : Int) : List S35 :=
  if 0 ≤ rd ps i ∧ (rd_T42 l i).f3 = 2 ∧ (rd_T42 l (rd ps i)).f3 = 1 ∧ mayS (rd_T42 l i) = true ∧ mayS (rd_T42 l (rd ps i)) = true then [⟨rd ps i, i⟩] else []
def pairsB (l : List S42) (ps : List Int) : List S35 :=
  if l.length = ps.length ∧ inP l.length ps then (List.range l.length).flatMap (fun i : Nat => pairAt l ps i) else []
theorem flat_le {α β : Type} (f : α → List β) (h : ∀ x, (f x).length ≤ 1) : ∀ l : List α, (l.flatMap f).length ≤ l.length
  | [] => by simp
  | x :: l => by
    have h1 := flat_le f h l
    have h2 := h x
    rw [List.flatMap_cons, List.length_append, List.length_cons]
    omega
theorem pairAt_le (l : List S42) (ps : List Int) (i : Int) : (pairAt l ps i).length ≤ 1 := by unfold pairAt; split <;> simp
theorem pairsB_length (l : List S42) (ps : List Int) : (pairsB l ps).length ≤ l.length := by
  unfold pairsB
  split
  · have := flat_le (fun i : Nat => pairAt l ps i) (fun i => pairAt_le l ps i) (List.range l.length)
    rwa [List.length_range] at this
  · simp
theorem rpairs_ev (l : List S42) (hl : l.length ≤ 1000000) (hf : ∀ s ∈ l, fitR s) (ps : List Int) (hps : ps.length ≤ 1000000) : Ev (fun k => merkhetref12_Of.f k l ps) (pairsB l ps) := by
  unfold merkhetref12_Of.f
  refine Ev.bind (a := []) (Ev.now _) ?_
  by_cases he : ¬ (l.length : Int) = (ps.length : Int)
  · refine Ev.neg he (Ev.cast (Ev.now _) ?_)
    unfold pairsB; rw [if_neg (fun h => he (by omega))]
  replace he := Decidable.not_not.1 he
  refine Ev.pos he ?_
  have hen : l.length = ps.length := by omega
  have two : inP l.length ps → ∀ (d i : Nat), l.length - i = d → i ≤ l.length → Ev (fun k => merkhetref12_Of.l1 k l ps ((List.range i).flatMap (fun i : Nat => pairAt l ps i)) (i : Int)) (pairsB l ps) := by
    intro hin d
    induction d with
    | zero =>
      intro i hd hi
      refine Ev.succ ?_
      simp only [merkhetref12_Of.l1]
      refine Ev.neg (by omega) (Ev.cast (Ev.now _) ?_)
      unfold pairsB; rw [if_pos ⟨hen, hin⟩, show i = l.length by omega]
    | succ d ih =>
      intro i hd hi
      have hlt : i < l.length := by omega
      have h2 := ih (i + 1) (by omega) (by omega)
      rw [List.range_succ, List.flatMap_append] at h2
      have hnl : ((List.range i).flatMap (fun i : Nat => pairAt l ps i)).length ≤ i := by
        have := flat_le (fun i : Nat => pairAt l ps i) (fun i => pairAt_le l ps i) (List.range i)
        rwa [List.length_range] at this
      have hri := inP_rd (ps := ps) (by rw [← hen]; exact hin) i (by omega) (by omega)
      have fin : ∀ (b : Bool), pairAt l ps i = (if b = true then [⟨rd ps i, i⟩] else []) → Ev (fun k => merkhetref12_Of.j2 k l ps ((List.range i).flatMap (fun i : Nat => pairAt l ps i)) (i : Int) (rd ps i) b) (pairsB l ps) := by
        intro b hb
        simp only [List.flatMap_cons, List.flatMap_nil, List.append_nil, hb] at h2
        refine Ev.succ ?_
        simp only [merkhetref12_Of.j2]
        rw [wrap_id (by omega) (by omega)]
        cases b with
        | true => exact Ev.pos rfl (Ev.pos (by omega) h2)
        | false =>
          refine Ev.neg (by simp) ?_
          simp only [Bool.false_eq_true, if_false, List.append_nil] at h2
          exact h2
      have no : pairAt l ps i = [] → Ev (fun k => merkhetref12_Of.j2 k l ps ((List.range i).flatMap (fun i : Nat => pairAt l ps i)) (i : Int) (rd ps i) false) (pairsB l ps) := fun h => fin false (by rw [h]; rfl)
      have hmi : rd_T42 l (i : Int) ∈ l := by
        rw [show rd_T42 l (i : Int) = l[i] by simp [rd_T42, List.getD, hlt]]
        exact List.getElem_mem _
      refine Ev.succ ?_
      simp only [merkhetref12_Of.l1]
      refine Ev.pos (by omega) (Ev.pos (by omega) (Ev.pos (by omega) (Ev.ite (fun c1 => Ev.ite (fun c2 => Ev.pos c1 (Ev.pos (by omega) (Ev.ite (fun c3 => ?_) (fun c3 => no ?_)))) (fun c2 => no ?_)) (fun c1 => no ?_))))
      · have hmp : rd_T42 l (rd ps i) ∈ l := by
          have hx : (rd ps i).toNat < l.length := by omega
          rw [show rd_T42 l (rd ps i) = l[(rd ps i).toNat] by simp [rd_T42, List.getD, hx]]
          exact List.getElem_mem _
        refine Ev.bind (rmayS_ev _ (hf _ hmi)) (Ev.ite (fun c4 => Ev.bind (rmayS_ev _ (hf _ hmp)) (fin _ ?_)) (fun c4 => no ?_))
        · unfold pairAt
          by_cases c5 : mayS (rd_T42 l (rd ps i)) = true
          · rw [if_pos ⟨c1, c2, c3, c4, c5⟩, if_pos c5]
          · rw [if_neg (fun h => c5 h.2.2.2.2), if_neg c5]
        · unfold pairAt; rw [if_neg (fun h => c4 h.2.2.2.1)]
      · unfold pairAt; rw [if_neg (fun h => c3 h.2.2.1)]
      · unfold pairAt; rw [if_neg (fun h => c2 h.2.1)]
      · unfold pairAt; rw [if_neg (fun h => c1 h.1)]
  have one : ∀ (d i : Nat), l.length - i = d → i ≤ l.length → (∀ x ∈ ps.take i, -1 ≤ x ∧ x < (l.length : Int)) → Ev (fun k => merkhetref12_Of.l0 k l ps [] (i : Int)) (pairsB l ps) := by
    intro d
    induction d with
    | zero =>
      intro i hd hi hin
      rw [List.take_of_length_le (by omega)] at hin
      refine Ev.succ ?_
      simp only [merkhetref12_Of.l0]
      exact Ev.neg (by omega) (two hin l.length 0 (by omega) (by omega))
    | succ d ih =>
      intro i hd hi hin
      have hlt : i < ps.length := by omega
      have hr : rd ps (i : Int) = ps[i] := by simp [rd, List.getD, hlt]
      have bad : ¬ (-1 ≤ ps[i] ∧ ps[i] < (l.length : Int)) → pairsB l ps = [] := by
        intro h
        unfold pairsB
        rw [if_neg (fun h2 => h (h2.2 _ (List.getElem_mem hlt)))]
      refine Ev.succ ?_
      simp only [merkhetref12_Of.l0, hr]
      refine Ev.pos (by omega) (Ev.pos (by omega) (Ev.pos (by omega) (Ev.ite (fun c1 => ?_) (fun c1 => Ev.ite (fun c2 => ?_) (fun c2 => ?_)))))
      · rw [bad (by omega)]; exact Ev.now _
      · rw [bad (by omega)]; exact Ev.now _
      · rw [wrap_id (by omega) (by omega)]
        refine ih (i + 1) (by omega) (by omega) ?_
        intro x hx
        rw [List.take_succ_eq_append_getElem hlt] at hx
        rcases List.mem_append.1 hx with h | h
        · exact hin x h
        · rw [List.mem_singleton.1 h]; omega
  exact one l.length 0 (by omega) (by omega) (by simp)
end Go.Proofs.Ytjgpggjjgimibaa.L

/- What the document's order of texts comes to, as plain Lean. -/
namespace Go.Proofs.Ytjgpggjjgimibaa.L
open Go.RowKit Go.Proofs.Ytjgpggjjgimibaa.Q Go.Proofs.YtjgpggjjgimibaaW.PrintWords Go.Proofs.YtjgpggjjgimibaaW.PrintLast Go.Proofs.YtjgpggjjgimibaaW.PrintMore Go.Proofs.YtjgpggjjgimibaaW.Lib
set_option linter.unusedVariables false

abbrev Span := S42
theorem rdS_nat (l : List Span) (i : Nat) (h : i < l.length) : rd_T42 l (i : Int) = l[i] := by simp [rd_T42, List.getD, h]
theorem data_drop (s : ByteArray) (i : Nat) (h : i < s.size) : ∃ x : UInt8, s.data.toList.drop i = x :: s.data.toList.drop (i + 1) ∧ (x.toNat : Int) = bt s (i : Int) := by
  have h' : i < s.data.toList.length := by simpa using h
  refine ⟨s.data.toList[i], List.drop_eq_getElem_cons h', ?_⟩
  rw [← bt_at s (i : Int) (by simpa using h)]
  simp [ByteArray.getElem_eq_getElem_data]
theorem text_l0 (a b : ByteArray) (ha : a.size ≤ 140737488351232) (hb : b.size ≤ 140737488351232) : ∀ (d i : Nat), a.size - i = d → i ≤ a.size → i ≤ b.size →
    Ev (fun k => merkhetref01_Text.l0 k a b (i : Int)) (Go.Lib.compareBytes (a.data.toList.drop i) (b.data.toList.drop i)) := by
  have stop : ∀ i : Nat, i ≤ a.size → i ≤ b.size → ¬ (i < a.size ∧ i < b.size) → (if (a.size : Int) < (b.size : Int) then (-1 : Int) else if (a.size : Int) > (b.size : Int) then 1 else 0) = Go.Lib.compareBytes (a.data.toList.drop i) (b.data.toList.drop i) := by
    intro i h1 h2 h3
    by_cases e1 : i < a.size
    · obtain ⟨x, hx, _⟩ := data_drop a i e1
      rw [hx, List.drop_of_length_le (l := b.data.toList) (by simp; omega), if_neg (by omega), if_pos (by omega)]; rfl
    · by_cases e2 : i < b.size
      · obtain ⟨x, hx, _⟩ := data_drop b i e2
        rw [hx, List.drop_of_length_le (l := a.data.toList) (by simp; omega), if_pos (by omega)]; rfl
      · rw [List.drop_of_length_le (l := a.data.toList) (by simp; omega), List.drop_of_length_le (l := b.data.toList) (by simp; omega), if_neg (by omega), if_neg (by omega)]; rfl
  have fin : ∀ i : Nat, i ≤ a.size → i ≤ b.size → ¬ (i < a.size ∧ i < b.size) → Ev (fun k => merkhetref01_Text.j1 k a b (i : Int) false) (Go.Lib.compareBytes (a.data.toList.drop i) (b.data.toList.drop i)) := by
    intro i h1 h2 h3
    refine Ev.step (f := fun _ => if (a.size : Int) < (b.size : Int) then some (-1) else if (a.size : Int) > (b.size : Int) then some 1 else some 0) (fun k => by simp [merkhetref01_Text.j1]) ?_
    rw [← stop i h1 h2 h3]
    refine Ev.ite (fun e => ?_) (fun e => ?_)
    · rw [if_pos e]; exact Ev.now _
    · rw [if_neg e]
      refine Ev.ite (fun e => ?_) (fun e => ?_)
      · rw [if_pos e]; exact Ev.now _
      · rw [if_neg e]; exact Ev.now _
  intro d
  induction d with
  | zero =>
    intro i hd h1 h2
    refine Ev.step (f := fun k => merkhetref01_Text.j1 k a b (i : Int) false) (fun k => by simp only [merkhetref01_Text.l0]; rw [if_neg (by omega)]) (fin i h1 h2 (by omega))
  | succ d ih =>
    intro i hd h1 h2
    refine Ev.step (f := fun k => merkhetref01_Text.j1 k a b (i : Int) (decide ((i : Int) < (b.size : Int)))) (fun k => by simp only [merkhetref01_Text.l0]; rw [if_pos (by omega)]) ?_
    by_cases e : i < b.size
    · rw [decide_eq_true (by omega : (i : Int) < (b.size : Int))]
      obtain ⟨x, hx, ex⟩ := data_drop a i (by omega)
      obtain ⟨y, hy, ey⟩ := data_drop b i e
      refine Ev.step (f := fun k => if bt a (i : Int) < bt b (i : Int) then some (-1) else if bt a (i : Int) > bt b (i : Int) then some 1 else merkhetref01_Text.l0 k a b ((i + 1 : Nat) : Int)) (fun k => ?_) ?_
      · simp only [merkhetref01_Text.j1]
        rw [if_pos trivial, if_pos (by omega), if_pos (by omega), if_pos (by omega), wrap_id (by omega) (by omega)]; rfl
      · rw [hx, hy]
        simp only [Go.Lib.compareBytes, UInt8.lt_iff_toNat_lt]
        refine Ev.ite (fun e1 => ?_) (fun e1 => ?_)
        · rw [if_pos (by omega)]; exact Ev.now _
        · rw [if_neg (by omega)]
          refine Ev.ite (fun e2 => ?_) (fun e2 => ?_)
          · rw [if_pos (by omega)]; exact Ev.now _
          · rw [if_neg (by omega)]; exact ih (i + 1) (by omega) (by omega) (by omega)
    · rw [decide_eq_false (by omega : ¬ (i : Int) < (b.size : Int))]
      exact fin i h1 h2 (by omega)
theorem text_ev (a b : ByteArray) (ha : a.size ≤ 140737488351232) (hb : b.size ≤ 140737488351232) : Ev (fun k => merkhetref01_Text.f k a b) (cmpB a b) := by
  have := text_l0 a b ha hb a.size 0 (by omega) (by omega) (by omega)
  simpa [merkhetref01_Text.f, cmpB] using this
end Go.Proofs.Ytjgpggjjgimibaa.L

