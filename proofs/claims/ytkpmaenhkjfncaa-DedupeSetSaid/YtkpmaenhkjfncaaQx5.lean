-- Written by wip/tools/gp.py, a program of this session round the kit's printer. Lean checks it.
import Derived.Test.YtkpmaenhkjfncaaQx0
import Derived.Test.YtkpmaenhkjfncaaQx4
namespace Go.Proofs.Ytkpmaenhkjfncaa.Q
open Go.RowKit Go.Proofs.YtkpmaenhkjfncaaW.PrintWords Go.Proofs.YtkpmaenhkjfncaaW.PrintLast Go.Proofs.YtkpmaenhkjfncaaW.PrintMore
attribute [local go_sem] max2_int min2_int max_two min_two max_three min_three max_four min_four   -- for this text's walks alone
set_option linter.unusedVariables false
set_option linter.unusedSimpArgs false

/-! ### merkhetref01_Sort: function 52 -/
mutual
def merkhetref01_Sort.l0 : Nat → List (S27) → List (S27) → Int → Option ((List (S27)))
  | 0, _, _, _ => none
  | k + 1, x0, x3, x4 => if x4 < (x0.length : Int) then (merkhetref01_Sort.l1 k x0 x3 x4 (x3.length : Int)) else (some x3)
def merkhetref01_Sort.l1 : Nat → List (S27) → List (S27) → Int → Int → Option ((List (S27)))
  | 0, _, _, _, _ => none
  | k + 1, x0, x3, x4, x5 => if x5 > 0 then (if 0 ≤ (wrap64 (x5 - 1)) then (if (wrap64 (x5 - 1)) < (x3.length : Int) then (if 0 ≤ x4 then (if x4 < (x0.length : Int) then ((merkhetref01_Cmp.f k ((rd_T27 x3 (wrap64 (x5 - 1))).f0) ((rd_T27 x3 (wrap64 (x5 - 1))).f1) ((rd_T27 x3 (wrap64 (x5 - 1))).f2) ((rd_T27 x3 (wrap64 (x5 - 1))).f3) ((rd_T27 x3 (wrap64 (x5 - 1))).f4) ((rd_T27 x3 (wrap64 (x5 - 1))).f5) ((rd_T27 x3 (wrap64 (x5 - 1))).f6) ((rd_T27 x3 (wrap64 (x5 - 1))).f7) ((rd_T27 x0 x4).f0) ((rd_T27 x0 x4).f1) ((rd_T27 x0 x4).f2) ((rd_T27 x0 x4).f3) ((rd_T27 x0 x4).f4) ((rd_T27 x0 x4).f5) ((rd_T27 x0 x4).f6) ((rd_T27 x0 x4).f7)).bind fun t147 => (if t147 > 0 then (merkhetref01_Sort.l1 k x0 x3 x4 (wrap64 (x5 - 1))) else ((some (([] : List (S27)) : List (S27))).bind fun y148 => (if 0 ≤ x5 then (if x5 ≤ (x3.length : Int) then ((some (x3.drop (x5 : Int).toNat : List (S27))).bind fun y151 => (if y148.length + y151.length < 1759218604441 then ((some (y148 ++ y151 : List (S27))).bind fun y155 => ((some (x3.take (x5 : Int).toNat : List (S27))).bind fun y158 => (if y158.length < 1759218604441 then ((some (y158 ++ [(⟨(rd_T27 x0 x4).f0, (rd_T27 x0 x4).f1, (rd_T27 x0 x4).f2, (rd_T27 x0 x4).f3, (rd_T27 x0 x4).f4, (rd_T27 x0 x4).f5, (rd_T27 x0 x4).f6, (rd_T27 x0 x4).f7⟩ : S27)] : List (S27))).bind fun y162 => (if y162.length + y155.length < 1759218604441 then (merkhetref01_Sort.l0 k x0 (y162 ++ y155) (wrap64 (x4 + 1))) else (none))) else (none)))) else (none))) else (none)) else (none))))) else (none)) else (none)) else (none)) else (none)) else ((some (([] : List (S27)) : List (S27))).bind fun y168 => (if 0 ≤ x5 then (if x5 ≤ (x3.length : Int) then ((some (x3.drop (x5 : Int).toNat : List (S27))).bind fun y171 => (if y168.length + y171.length < 1759218604441 then ((some (y168 ++ y171 : List (S27))).bind fun y175 => ((some (x3.take (x5 : Int).toNat : List (S27))).bind fun y178 => (if 0 ≤ x4 then (if x4 < (x0.length : Int) then (if y178.length < 1759218604441 then ((some (y178 ++ [(⟨(rd_T27 x0 x4).f0, (rd_T27 x0 x4).f1, (rd_T27 x0 x4).f2, (rd_T27 x0 x4).f3, (rd_T27 x0 x4).f4, (rd_T27 x0 x4).f5, (rd_T27 x0 x4).f6, (rd_T27 x0 x4).f7⟩ : S27)] : List (S27))).bind fun y182 => (if y182.length + y175.length < 1759218604441 then (merkhetref01_Sort.l0 k x0 (y182 ++ y175) (wrap64 (x4 + 1))) else (none))) else (none)) else (none)) else (none)))) else (none))) else (none)) else (none)))
end
def merkhetref01_Sort.f (k : Nat) (l0 : List (S27)) : Option ((List (S27))) := merkhetref01_Sort.l0 k l0 (([] : List (S27))) 0
theorem merkhetref01_Sort.mono_l : ∀ k, (∀ y0 y1 y2, LeO (merkhetref01_Sort.l0 k y0 y1 y2) (merkhetref01_Sort.l0 (k + 1) y0 y1 y2)) ∧ (∀ y0 y1 y2 y3, LeO (merkhetref01_Sort.l1 k y0 y1 y2 y3) (merkhetref01_Sort.l1 (k + 1) y0 y1 y2 y3))
  | 0 => ⟨fun _ _ _ r h => by simp [merkhetref01_Sort.l0] at h, fun _ _ _ _ r h => by simp [merkhetref01_Sort.l1] at h⟩
  | k + 1 => by
    obtain ⟨ih0, ih1⟩ := merkhetref01_Sort.mono_l k
    refine ⟨?_, ?_⟩
    · intro y0 y1 y2
      unfold merkhetref01_Sort.l0
      repeat' first
      | (with_reducible exact ih0 _ _ _)
      | (with_reducible exact ih1 _ _ _ _)
      | (with_reducible exact merkhetref01_Cmp.mono _ _ _ _ _ _ _ _ _ _ _ _ _ _ _ _ _)
      | (with_reducible exact LeO.refl _)
      | (with_reducible exact LeO.none _)
      | (with_reducible refine LeO.ite ?_ ?_)
      | (with_reducible refine LeO.bind ?_ (fun _ => ?_))
      | exact ih0 _ _ _
      | exact ih1 _ _ _ _
      | exact merkhetref01_Cmp.mono _ _ _ _ _ _ _ _ _ _ _ _ _ _ _ _ _
      | exact LeO.none _
      | refine LeO.ite ?_ ?_
      | refine LeO.bind ?_ (fun _ => ?_)
    · intro y0 y1 y2 y3
      unfold merkhetref01_Sort.l1
      repeat' first
      | (with_reducible exact ih0 _ _ _)
      | (with_reducible exact ih1 _ _ _ _)
      | (with_reducible exact merkhetref01_Cmp.mono _ _ _ _ _ _ _ _ _ _ _ _ _ _ _ _ _)
      | (with_reducible exact LeO.refl _)
      | (with_reducible exact LeO.none _)
      | (with_reducible refine LeO.ite ?_ ?_)
      | (with_reducible refine LeO.bind ?_ (fun _ => ?_))
      | exact ih0 _ _ _
      | exact ih1 _ _ _ _
      | exact merkhetref01_Cmp.mono _ _ _ _ _ _ _ _ _ _ _ _ _ _ _ _ _
      | exact LeO.none _
      | refine LeO.ite ?_ ?_
      | refine LeO.bind ?_ (fun _ => ?_)
theorem merkhetref01_Sort.mono : ∀ a0 k, LeO (merkhetref01_Sort.f k a0) (merkhetref01_Sort.f (k + 1) a0) := by
  intro a0 k
  obtain ⟨ih0, ih1⟩ := merkhetref01_Sort.mono_l k
  unfold merkhetref01_Sort.f
  repeat' first
      | (with_reducible exact ih0 _ _ _)
      | (with_reducible exact ih1 _ _ _ _)
      | (with_reducible exact merkhetref01_Cmp.mono _ _ _ _ _ _ _ _ _ _ _ _ _ _ _ _ _)
      | (with_reducible exact LeO.refl _)
      | (with_reducible exact LeO.none _)
      | (with_reducible refine LeO.ite ?_ ?_)
      | (with_reducible refine LeO.bind ?_ (fun _ => ?_))
      | exact ih0 _ _ _
      | exact ih1 _ _ _ _
      | exact merkhetref01_Cmp.mono _ _ _ _ _ _ _ _ _ _ _ _ _ _ _ _ _
      | exact LeO.none _
      | refine LeO.ite ?_ ?_
      | refine LeO.bind ?_ (fun _ => ?_)
def merkhetref01_Sort.T6 : Bool × List (List Nat × List Nat) := (true, [([], []), ([0], [0]), ([1], [1]), ([2], [2]), ([2], [2]), ([4, 2], [2, 4]), ([3, 5, 2], [2, 3, 5]), ([6, 2], [2, 6]), ([2], [2]), ([2], [2]), ([8, 9, 2], [2, 8, 9]), ([10, 2], [2, 10]), ([7, 11, 2, 2], [2, 7, 11]), ([12, 2], [2, 12]), ([2, 13], [2, 13])])
def merkhetref01_Sort.B6 : List Nat := [0, 1, 3, 7, 7, 23, 63, 127, 7, 7, 775, 1799, 4095, 8191, 16383]
theorem merkhetref01_Sort.tab6 : rtab .any (opsOf Try.f52 6) = merkhetref01_Sort.T6 := by kernel_rfl
theorem merkhetref01_Sort.bits6 : waitsOk merkhetref01_Sort.T6.2 merkhetref01_Sort.B6 = true := by kernel_rfl
def merkhetref01_Sort.T9 : Bool × List (List Nat × List Nat) := (true, [([], []), ([], []), ([0, 1], [0, 1]), ([], []), ([], []), ([3, 4], [3, 4]), ([5], [5]), ([6], [6]), ([2, 7], [2, 7]), ([], []), ([8, 9, 8], [8, 9]), ([10, 10, 0, 1, 2, 3, 4, 5, 6, 7, 8, 9, 10], [0, 10])])
def merkhetref01_Sort.B9 : List Nat := [0, 0, 3, 0, 0, 24, 56, 120, 255, 0, 1023, 2047]
theorem merkhetref01_Sort.tab9 : rtab .any (opsOf Try.f52 9) = merkhetref01_Sort.T9 := by kernel_rfl
theorem merkhetref01_Sort.bits9 : waitsOk merkhetref01_Sort.T9.2 merkhetref01_Sort.B9 = true := by kernel_rfl
set_option maxHeartbeats 8000000 in
set_option maxRecDepth 100000 in
theorem merkhetref01_Sort.calls (k : Nat) (A0 : Option Addr) (c0 : Nat) (l0 : List (S27)) (r : List (S27)) (w : World) (hr0 : Kd.C k27 w A0 l0.length l0) (hc0 : l0.length ≤ c0) (h : merkhetref01_Sort.f k l0 = some r) :
    Calls Try.prog 52 #[.slice A0 l0.length c0] w fun e w' => ∃ v0_ : Value, e = .returned (v0_) ∧ Kd.R k27 27 w' w.heap.size (fun _ => True) v0_ r ∧ Below w.heap.size w w' := by
  have hu27 := Try.underlying27
  have HR0 := Aside0.mk hr0
  have HC0 := Aside0.mk hc0
  clear hr0 hc0
  have HB := Aside0.mk (Below.refl w.heap.size w)
  have H : (merkhetref01_Sort.l0 k l0 (([] : List (S27))) 0) = some r := h
  clear h
  obtain ⟨y142, hy142⟩ : ∃ y_ : List (S27), y_ = (([] : List (S27))) := ⟨_, rfl⟩
  replace H : (merkhetref01_Sort.l0 k l0 y142 0) = some r := by first | (rw [hy142]; with_reducible exact H) | (have H2_ := (Option.bind_some _ _).symm.trans H; rw [hy142]; with_reducible exact H2_) | (have H2_ := (Option.bind_some _ _).symm.trans H; with_reducible exact H2_) | with_reducible exact H | (rw [hy142]; exact H) | exact H
  have Ny142 := Aside0.mk hy142
  clear hy142
  have H' := Aside0.mk H
  clear H
  go_enter Try.func52, Try.ntmps52
  go_wp2_with (first | ((with_reducible refine gate_dst (N := 7) rfl ?_); refine Kd.R_lit k27 _ 27 ?hg (N := 7) ?hd (xs := ([] : List (S27))) (inner := []) (ok := fun _ => True) (okp := fun _ => True) ?hr ?hp (fun _ hk => hk) trivial (Below.refl _ _) (Nat.le_refl _) (by simp) ?_; (case hd => rfl); (case hg => rfl); (case hr => first | (go_simp; done) | (go_simp; rfl)); (case hp => exact (Reps.none _ _)); intro v143 w2 ho3 hb hg_ hnew_; clear hg_ hnew_; (first | rw [← Ny142.out] at ho3 | (simp only [Int.reduceToNat] at ho3; rw [← Ny142.out] at ho3)); have n0_ := Aside0.mk (Kd.R_lower ho3 (below_size (by repeat (first | (with_reducible first | exact HB.out | apply below_alloc | apply pw_below_drewN | apply below_drew1) | exact HB.out)))); have n1_ := Aside0.mk (below_step (by repeat (first | (with_reducible first | exact HB.out | apply below_alloc | apply pw_below_drewN | apply below_drew1) | exact HB.out)) hb); clear HB; have HO144 := n0_; have HB := n1_; clear n0_ n1_; clear hb ho3))
  go_loopg [3, 4] k (fun kq v3 v4 w' => ∃ (x3_1 : List (S27)) (x4_1 : Int), v4 = .int .i64 x4_1 ∧ Aside0 (merkhetref01_Sort.l0 kq l0 x3_1 x4_1 = some r) ∧ Aside0 (kq ≤ k) ∧ Aside0 (Kd.R k27 27 w' w.heap.size (fun _ => True) v3 x3_1) ∧ Aside0 (Below w.heap.size w w'))
  case atStart => exact ⟨(y142), (0), (by first | rfl | (simp; done) | (simp [*]; done)), H', ⟨Nat.le_refl _⟩, ⟨by (with_reducible repeat (first | apply Kd.R_alloc | apply Kd.R_drewN | apply Kd.R_drew)); exact HO144.out⟩, ⟨by repeat (first | (with_reducible first | exact HB.out | apply below_alloc | apply pw_below_drewN | apply below_drew1) | exact HB.out)⟩⟩
  case round =>
    clear H'
    try clear p2
    obtain ⟨x3_1, x4_1, rfl, HA, HK1, HO_3, HB⟩ := hrel
    cases gk with
    | zero => exact absurd HA.out (by simp [merkhetref01_Sort.l0])
    | succ k1 =>
      have H := HA.out
      clear HA
      simp only [merkhetref01_Sort.l0] at H
      by_cases c4 : x4_1 < (l0.length : Int)
      · rw [if_pos c4] at H
        have c4b0 : decide (x4_1 < (l0.length : Int)) = true := decide_eq_true c4
        clear c4
        have H' := Aside0.mk H
        clear H
        obtain ⟨Ao5, co5, eo5⟩ := Kd.R_slice HO_3.out
        subst eo5
        go_wp2
        go_loopg [5] k1 (fun kq v5 w' => ∃ (x5_2 : Int), v5 = .int .i64 x5_2 ∧ Aside0 (merkhetref01_Sort.l1 kq l0 x3_1 x4_1 x5_2 = some r) ∧ Aside0 (kq ≤ k1) ∧ Aside0 (Kd.R k27 27 w' w.heap.size (fun _ => True) (.slice Ao5 x3_1.length co5) x3_1) ∧ Aside0 (Below w.heap.size w w'))
        case atStart => exact ⟨((x3_1.length : Int)), (by first | rfl | (simp; done) | (simp [*]; done)), H', ⟨Nat.le_refl _⟩, ⟨by (with_reducible repeat (first | apply Kd.R_alloc | apply Kd.R_drewN | apply Kd.R_drew)); exact HO_3.out⟩, ⟨by repeat (first | (with_reducible first | exact HB.out | apply below_alloc | apply pw_below_drewN | apply below_drew1) | exact HB.out)⟩⟩
        case round =>
          clear H'
          try clear p2
          try clear c4
          try clear c4b0
          try clear c5
          try clear p2
          obtain ⟨x5_2, rfl, HA, HK2, HO_3, HB⟩ := hrel
          cases gk with
          | zero => exact absurd HA.out (by simp [merkhetref01_Sort.l1])
          | succ k2 =>
            have H := HA.out
            clear HA
            simp only [merkhetref01_Sort.l1] at H
            by_cases c6 : x5_2 > 0
            · rw [if_pos c6] at H
              have c6b0 : decide (0 < x5_2) = true := decide_eq_true c6
              clear c6
              obtain ⟨ji7, hji7⟩ : ∃ j_ : Int, (wrap64 (x5_2 - 1)) = j_ := ⟨_, rfl⟩
              replace H : (if 0 ≤ (ji7) then (if (ji7) < (x3_1.length : Int) then (if 0 ≤ x4_1 then (if x4_1 < (l0.length : Int) then ((merkhetref01_Cmp.f k2 ((rd_T27 x3_1 (ji7)).f0) ((rd_T27 x3_1 (ji7)).f1) ((rd_T27 x3_1 (ji7)).f2) ((rd_T27 x3_1 (ji7)).f3) ((rd_T27 x3_1 (ji7)).f4) ((rd_T27 x3_1 (ji7)).f5) ((rd_T27 x3_1 (ji7)).f6) ((rd_T27 x3_1 (ji7)).f7) ((rd_T27 l0 x4_1).f0) ((rd_T27 l0 x4_1).f1) ((rd_T27 l0 x4_1).f2) ((rd_T27 l0 x4_1).f3) ((rd_T27 l0 x4_1).f4) ((rd_T27 l0 x4_1).f5) ((rd_T27 l0 x4_1).f6) ((rd_T27 l0 x4_1).f7)).bind fun t147 => (if t147 > 0 then (merkhetref01_Sort.l1 k2 l0 x3_1 x4_1 ji7) else ((some (([] : List (S27)) : List (S27))).bind fun y148 => (if 0 ≤ x5_2 then (if x5_2 ≤ (x3_1.length : Int) then ((some (x3_1.drop (x5_2 : Int).toNat : List (S27))).bind fun y151 => (if y148.length + y151.length < 1759218604441 then ((some (y148 ++ y151 : List (S27))).bind fun y155 => ((some (x3_1.take (x5_2 : Int).toNat : List (S27))).bind fun y158 => (if y158.length < 1759218604441 then ((some (y158 ++ [(⟨(rd_T27 l0 x4_1).f0, (rd_T27 l0 x4_1).f1, (rd_T27 l0 x4_1).f2, (rd_T27 l0 x4_1).f3, (rd_T27 l0 x4_1).f4, (rd_T27 l0 x4_1).f5, (rd_T27 l0 x4_1).f6, (rd_T27 l0 x4_1).f7⟩ : S27)] : List (S27))).bind fun y162 => (if y162.length + y155.length < 1759218604441 then (merkhetref01_Sort.l0 k2 l0 (y162 ++ y155) (wrap64 (x4_1 + 1))) else (none))) else (none)))) else (none))) else (none)) else (none))))) else (none)) else (none)) else (none)) else (none)) = some r := by first | (rw [hji7] at H; exact H) | (simp only [hji7] at H ⊢; exact H)
              have hji7w : (IntKind.i64.wrap (x5_2 - 1)) = ji7 := (i64_w _).trans hji7
              by_cases c8 : 0 ≤ (ji7)
              · rw [if_pos c8] at H
                have c8b0 : decide (0 ≤ (ji7)) = true := decide_eq_true c8
                clear c8
                by_cases c9 : (ji7) < (x3_1.length : Int)
                · rw [if_pos c9] at H
                  have c9b0 : decide ((ji7) < (x3_1.length : Int)) = true := decide_eq_true c9
                  clear c9
                  by_cases c10 : 0 ≤ x4_1
                  · rw [if_pos c10] at H
                    have c10b0 : decide (0 ≤ x4_1) = true := decide_eq_true c10
                    clear c10
                    by_cases c11 : x4_1 < (l0.length : Int)
                    · rw [if_pos c11] at H
                      have c11b0 : decide (x4_1 < (l0.length : Int)) = true := decide_eq_true c11
                      clear c11
                      replace H := Option.bind_eq_some_iff.mp H
                      obtain ⟨t147, A120, H⟩ := H
                      replace H : (if t147 > 0 then (merkhetref01_Sort.l1 k2 l0 x3_1 x4_1 ji7) else ((some (([] : List (S27)) : List (S27))).bind fun y148 => (if 0 ≤ x5_2 then (if x5_2 ≤ (x3_1.length : Int) then ((some (x3_1.drop (x5_2 : Int).toNat : List (S27))).bind fun y151 => (if y148.length + y151.length < 1759218604441 then ((some (y148 ++ y151 : List (S27))).bind fun y155 => ((some (x3_1.take (x5_2 : Int).toNat : List (S27))).bind fun y158 => (if y158.length < 1759218604441 then ((some (y158 ++ [(⟨(rd_T27 l0 x4_1).f0, (rd_T27 l0 x4_1).f1, (rd_T27 l0 x4_1).f2, (rd_T27 l0 x4_1).f3, (rd_T27 l0 x4_1).f4, (rd_T27 l0 x4_1).f5, (rd_T27 l0 x4_1).f6, (rd_T27 l0 x4_1).f7⟩ : S27)] : List (S27))).bind fun y162 => (if y162.length + y155.length < 1759218604441 then (merkhetref01_Sort.l0 k2 l0 (y162 ++ y155) (wrap64 (x4_1 + 1))) else (none))) else (none)))) else (none))) else (none)) else (none)))) = some r := H
                      have A12 := Aside0.mk A120
                      clear A120
                      by_cases c13 : t147 > 0
                      · rw [if_pos c13] at H
                        have c13b0 : decide (0 < t147) = true := decide_eq_true c13
                        clear c13
                        have H' := Aside0.mk H
                        clear H
                        try go_wp2
                        have n0_ := Aside0.mk (Kd.R_drew HO_3.out)
                        have n1_ := Aside0.mk (below_drew1 HB.out)
                        clear HO_3
                        clear HB
                        have HO_3 := n0_
                        have HB := n1_
                        clear n0_ n1_
                        have p145 : 0 ≤ ((ji7) : Int) := of_decide_eq_true (by first | (with_reducible assumption) | assumption)
                        have q145 : (ji7) < (x3_1.length : Int) := of_decide_eq_true (by first | (with_reducible assumption) | assumption)
                        obtain ⟨ad145, e145, hx145_0, hx145_1, hx145_2, hx145_3, hx145_4, hx145_5, hx145_6, hx145_7⟩ := at_T27 (Kd.R_reads' HO_3.out).2.2 (ji7) p145 q145
                        cases e145
                        replace p145 := eq_true p145
                        replace q145 := eq_true q145
                        have p146 : 0 ≤ (x4_1 : Int) := of_decide_eq_true (by first | (with_reducible assumption) | assumption)
                        have q146 : x4_1 < (l0.length : Int) := of_decide_eq_true (by first | (with_reducible assumption) | assumption)
                        obtain ⟨ad146, e146, hx146_0, hx146_1, hx146_2, hx146_3, hx146_4, hx146_5, hx146_6, hx146_7⟩ := at_T27 HR0.out x4_1 p146 q146
                        have hw146_7 := hx146_7
                        have hw146_6 := hx146_6
                        have hw146_5 := hx146_5
                        have hw146_4 := hx146_4
                        have hw146_3 := hx146_3
                        have hw146_2 := hx146_2
                        have hw146_1 := hx146_1
                        have hw146_0 := hx146_0
                        cases e146
                        replace hx146_0 := (HB.out.cell (World.block_lt_of_cell? w _ hx146_0)).trans hx146_0
                        replace hx146_1 := (HB.out.cell (World.block_lt_of_cell? w _ hx146_1)).trans hx146_1
                        replace hx146_2 := (HB.out.cell (World.block_lt_of_cell? w _ hx146_2)).trans hx146_2
                        replace hx146_3 := (HB.out.cell (World.block_lt_of_cell? w _ hx146_3)).trans hx146_3
                        replace hx146_4 := (HB.out.cell (World.block_lt_of_cell? w _ hx146_4)).trans hx146_4
                        replace hx146_5 := (HB.out.cell (World.block_lt_of_cell? w _ hx146_5)).trans hx146_5
                        replace hx146_6 := (HB.out.cell (World.block_lt_of_cell? w _ hx146_6)).trans hx146_6
                        replace hx146_7 := (HB.out.cell (World.block_lt_of_cell? w _ hx146_7)).trans hx146_7
                        replace p146 := eq_true p146
                        replace q146 := eq_true q146
                        refine start_ (n := 15) (S := fun w' => w'.cell? (ad145.add (((ji7)).toNat * 8)) = some (.int .u64 ((rd_T27 x3_1 (ji7)).f0)) ∧ w'.cell? ⟨(ad145.add (((ji7)).toNat * 8)).block, (ad145.add (((ji7)).toNat * 8)).off + 1, none⟩ = some (.int .u64 ((rd_T27 x3_1 (ji7)).f1)) ∧ w'.cell? ⟨(ad145.add (((ji7)).toNat * 8)).block, (ad145.add (((ji7)).toNat * 8)).off + 2, none⟩ = some (.int .u64 ((rd_T27 x3_1 (ji7)).f2)) ∧ w'.cell? ⟨(ad145.add (((ji7)).toNat * 8)).block, (ad145.add (((ji7)).toNat * 8)).off + 3, none⟩ = some (.int .u8 ((rd_T27 x3_1 (ji7)).f3)) ∧ w'.cell? ⟨(ad145.add (((ji7)).toNat * 8)).block, (ad145.add (((ji7)).toNat * 8)).off + 4, none⟩ = some (.string ((rd_T27 x3_1 (ji7)).f4)) ∧ w'.cell? ⟨(ad145.add (((ji7)).toNat * 8)).block, (ad145.add (((ji7)).toNat * 8)).off + 5, none⟩ = some (.string ((rd_T27 x3_1 (ji7)).f5)) ∧ w'.cell? ⟨(ad145.add (((ji7)).toNat * 8)).block, (ad145.add (((ji7)).toNat * 8)).off + 6, none⟩ = some (.int .i64 ((rd_T27 x3_1 (ji7)).f6)) ∧ w'.cell? ⟨(ad145.add (((ji7)).toNat * 8)).block, (ad145.add (((ji7)).toNat * 8)).off + 7, none⟩ = some (.int .i64 ((rd_T27 x3_1 (ji7)).f7)) ∧ w'.cell? (ad146.add ((x4_1).toNat * 8)) = some (.int .u64 ((rd_T27 l0 x4_1).f0)) ∧ w'.cell? ⟨(ad146.add ((x4_1).toNat * 8)).block, (ad146.add ((x4_1).toNat * 8)).off + 1, none⟩ = some (.int .u64 ((rd_T27 l0 x4_1).f1)) ∧ w'.cell? ⟨(ad146.add ((x4_1).toNat * 8)).block, (ad146.add ((x4_1).toNat * 8)).off + 2, none⟩ = some (.int .u64 ((rd_T27 l0 x4_1).f2)) ∧ w'.cell? ⟨(ad146.add ((x4_1).toNat * 8)).block, (ad146.add ((x4_1).toNat * 8)).off + 3, none⟩ = some (.int .u8 ((rd_T27 l0 x4_1).f3)) ∧ w'.cell? ⟨(ad146.add ((x4_1).toNat * 8)).block, (ad146.add ((x4_1).toNat * 8)).off + 4, none⟩ = some (.string ((rd_T27 l0 x4_1).f4)) ∧ w'.cell? ⟨(ad146.add ((x4_1).toNat * 8)).block, (ad146.add ((x4_1).toNat * 8)).off + 5, none⟩ = some (.string ((rd_T27 l0 x4_1).f5)) ∧ w'.cell? ⟨(ad146.add ((x4_1).toNat * 8)).block, (ad146.add ((x4_1).toNat * 8)).off + 6, none⟩ = some (.int .i64 ((rd_T27 l0 x4_1).f6)) ∧ w'.cell? ⟨(ad146.add ((x4_1).toNat * 8)).block, (ad146.add ((x4_1).toNat * 8)).off + 7, none⟩ = some (.int .i64 ((rd_T27 l0 x4_1).f7))) (ds := []) #[false, false, false, false, false, false, false, false, false, false, false, false, false, false, false] (by kernel_rfl) rfl rfl ⟨hx145_0, hx145_1, hx145_2, hx145_3, hx145_4, hx145_5, hx145_6, hx145_7, ((HB.out.cell (World.block_lt_of_cell? w _ hw146_0)).trans hw146_0), ((HB.out.cell (World.block_lt_of_cell? w _ hw146_1)).trans hw146_1), ((HB.out.cell (World.block_lt_of_cell? w _ hw146_2)).trans hw146_2), ((HB.out.cell (World.block_lt_of_cell? w _ hw146_3)).trans hw146_3), ((HB.out.cell (World.block_lt_of_cell? w _ hw146_4)).trans hw146_4), ((HB.out.cell (World.block_lt_of_cell? w _ hw146_5)).trans hw146_5), ((HB.out.cell (World.block_lt_of_cell? w _ hw146_6)).trans hw146_6), ((HB.out.cell (World.block_lt_of_cell? w _ hw146_7)).trans hw146_7)⟩ (fun hHeld => ?_); refine with_tabW merkhetref01_Sort.tab6 merkhetref01_Sort.bits6 (fun HT_ HW_ => ?_)
                        generalize wr.drew = w14 at HO_3 HB hx145_0 hx145_1 hx145_2 hx145_3 hx145_4 hx145_5 hx145_6 hx145_7 hx146_0 hx146_1 hx146_2 hx146_3 hx146_4 hx146_5 hx146_6 hx146_7 hHeld ⊢
                        refine pure_ (i := 0) (N := some 16) (v := ?_) (a' := ?_) #[true, false, false, false, false, false, false, false, false, false, false, false, false, false, false] rfl rfl (any_of HT_.out (by kernel_rfl)) (fun _ _ _ h => h) (Or.inl ⟨by rfl, ?_⟩) ?_ ?_
                        rotate_left
                        · intro w'
                          go_simp
                          with_reducible rfl
                        rotate_left
                        · simp only [Act.put, List.setIfInBounds_toArray, List.set_cons_zero, List.set_cons_succ, i64_w, i32_w]
                          rfl
                        refine pure_ (i := 1) (N := some 17) (v := ?_) (a' := ?_) #[true, true, false, false, false, false, false, false, false, false, false, false, false, false, false] rfl rfl (any_of HT_.out (by kernel_rfl)) (fun _ _ _ h => h) (Or.inl ⟨by rfl, ?_⟩) ?_ ?_
                        rotate_left
                        · intro w'
                          go_simp
                          with_reducible rfl
                        rotate_left
                        · simp only [Act.put, List.setIfInBounds_toArray, List.set_cons_zero, List.set_cons_succ, i64_w, i32_w]
                          rfl
                        refine pure_ (i := 2) (N := some 18) (v := ?_) (a' := ?_) #[true, true, true, false, false, false, false, false, false, false, false, false, false, false, false] rfl rfl (any_of HT_.out (by kernel_rfl)) (fun _ _ _ h => h) (Or.inl ⟨by rfl, ?_⟩) ?_ ?_
                        rotate_left
                        · intro w'
                          go_simp
                          with_reducible rfl
                        rotate_left
                        · simp only [Act.put, List.setIfInBounds_toArray, List.set_cons_zero, List.set_cons_succ, i64_w, i32_w]
                          rfl
                        refine pure_ (i := 3) (N := some 19) (v := ?_) (a' := ?_) #[true, true, true, true, false, false, false, false, false, false, false, false, false, false, false] rfl rfl (any_of HT_.out (by kernel_rfl)) (fun _ _ _ h => h) (Or.inl ⟨by rfl, ?_⟩) ?_ ?_
                        rotate_left
                        · intro w'
                          go_simp
                          with_reducible rfl
                        rotate_left
                        · simp only [Act.put, List.setIfInBounds_toArray, List.set_cons_zero, List.set_cons_succ, i64_w, i32_w]
                          rfl
                        refine pure_ (i := 4) (N := some 20) (v := ?_) (a' := ?_) #[true, true, true, true, true, false, false, false, false, false, false, false, false, false, false] rfl rfl (any_of HT_.out (by kernel_rfl)) (fun _ _ _ h => h) (Or.inl ⟨by rfl, ?_⟩) ?_ ?_
                        rotate_left
                        · intro w'
                          go_simp
                          with_reducible rfl
                        rotate_left
                        · simp only [Act.put, List.setIfInBounds_toArray, List.set_cons_zero, List.set_cons_succ, i64_w, i32_w]
                          rfl
                        refine pure_ (i := 5) (N := some 21) (v := ?_) (a' := ?_) #[true, true, true, true, true, true, false, false, false, false, false, false, false, false, false] rfl rfl (any_of HT_.out (by kernel_rfl)) (fun _ _ _ h => h) (Or.inl ⟨by rfl, ?_⟩) ?_ ?_
                        rotate_left
                        · intro w'
                          go_simp
                          with_reducible rfl
                        rotate_left
                        · simp only [Act.put, List.setIfInBounds_toArray, List.set_cons_zero, List.set_cons_succ, i64_w, i32_w]
                          rfl
                        refine pure_ (i := 6) (N := some 22) (v := ?_) (a' := ?_) #[true, true, true, true, true, true, true, false, false, false, false, false, false, false, false] rfl rfl (any_of HT_.out (by kernel_rfl)) (fun _ _ _ h => h) (Or.inl ⟨by rfl, ?_⟩) ?_ ?_
                        rotate_left
                        · intro w'
                          go_simp
                          with_reducible rfl
                        rotate_left
                        · simp only [Act.put, List.setIfInBounds_toArray, List.set_cons_zero, List.set_cons_succ, i64_w, i32_w]
                          rfl
                        refine pure_ (i := 8) (N := some 24) (v := ?_) (a' := ?_) #[true, true, true, true, true, true, true, false, true, false, false, false, false, false, false] rfl rfl (any_of HT_.out (by kernel_rfl)) (fun _ _ _ h => h) (Or.inl ⟨by rfl, ?_⟩) ?_ ?_
                        rotate_left
                        · intro w'
                          go_simp
                          with_reducible rfl
                        rotate_left
                        · simp only [Act.put, List.setIfInBounds_toArray, List.set_cons_zero, List.set_cons_succ, i64_w, i32_w]
                          rfl
                        refine pure_ (i := 9) (N := some 25) (v := ?_) (a' := ?_) #[true, true, true, true, true, true, true, false, true, true, false, false, false, false, false] rfl rfl (any_of HT_.out (by kernel_rfl)) (fun _ _ _ h => h) (Or.inl ⟨by rfl, ?_⟩) ?_ ?_
                        rotate_left
                        · intro w'
                          go_simp
                          with_reducible rfl
                        rotate_left
                        · simp only [Act.put, List.setIfInBounds_toArray, List.set_cons_zero, List.set_cons_succ, i64_w, i32_w]
                          rfl
                        refine pure_ (i := 10) (N := some 26) (v := ?_) (a' := ?_) #[true, true, true, true, true, true, true, false, true, true, true, false, false, false, false] rfl rfl (any_of HT_.out (by kernel_rfl)) (fun _ _ _ h => h) (Or.inl ⟨by rfl, ?_⟩) ?_ ?_
                        rotate_left
                        · intro w'
                          go_simp
                          with_reducible rfl
                        rotate_left
                        · simp only [Act.put, List.setIfInBounds_toArray, List.set_cons_zero, List.set_cons_succ, i64_w, i32_w]
                          rfl
                        refine take_ (i := 7) (N := some 23) (v := ?_) (a' := ?_) #[true, true, true, true, true, true, true, true, true, true, true, false, false, false, false] rfl rfl (take_ofW HT_.out HW_.out (by kernel_rfl)) (fun _ _ _ h => h) (Or.inl ⟨by rfl, ?_⟩) hHeld ?_ ?_
                        rotate_left
                        · rintro w' ⟨s0, s1, s2, s3, s4, s5, s6, s7, s8, s9, s10, s11, s12, s13, s14, s15⟩
                          go_simp
                          with_reducible rfl
                        rotate_left
                        · simp only [Act.put, List.setIfInBounds_toArray, List.set_cons_zero, List.set_cons_succ, i64_w, i32_w]
                          rfl
                        refine take_ (i := 11) (N := some 27) (v := ?_) (a' := ?_) #[true, true, true, true, true, true, true, true, true, true, true, true, false, false, false] rfl rfl (take_ofW HT_.out HW_.out (by kernel_rfl)) (fun _ _ _ h => h) (Or.inl ⟨by rfl, ?_⟩) hHeld ?_ ?_
                        rotate_left
                        · rintro w' ⟨s0, s1, s2, s3, s4, s5, s6, s7, s8, s9, s10, s11, s12, s13, s14, s15⟩
                          go_simp
                          with_reducible rfl
                        rotate_left
                        · simp only [Act.put, List.setIfInBounds_toArray, List.set_cons_zero, List.set_cons_succ, i64_w, i32_w]
                          rfl
                        refine one_ (i := 12) (N := some 28) #[true, true, true, true, true, true, true, true, true, true, true, true, true, false, false] rfl rfl (one_of HT_.out (by kernel_rfl)) (by decide) (fun K hK => ?_)
                        refine goes_ Try.func38 (by kernel_rfl) rfl #[.agg #[.int .u64 ((rd_T27 x3_1 (ji7)).f0), .int .u64 ((rd_T27 x3_1 (ji7)).f1), .int .u64 ((rd_T27 x3_1 (ji7)).f2), .int .u8 ((rd_T27 x3_1 (ji7)).f3), .string ((rd_T27 x3_1 (ji7)).f4), .string ((rd_T27 x3_1 (ji7)).f5), .int .i64 ((rd_T27 x3_1 (ji7)).f6), .int .i64 ((rd_T27 x3_1 (ji7)).f7)], .agg #[.int .u64 ((rd_T27 l0 x4_1).f0), .int .u64 ((rd_T27 l0 x4_1).f1), .int .u64 ((rd_T27 l0 x4_1).f2), .int .u8 ((rd_T27 l0 x4_1).f3), .string ((rd_T27 l0 x4_1).f4), .string ((rd_T27 l0 x4_1).f5), .int .i64 ((rd_T27 l0 x4_1).f6), .int .i64 ((rd_T27 l0 x4_1).f7)]] (by rfl) rfl rfl (by (try simp only [List.map_toArray, List.map_cons, List.map_nil]); first | done | (simp only [hji7]; rfl) | rfl | (simp only [List.length_drop, List.length_take]; rfl)) ?_
                        with_reducible refine (merkhetref01_Cmp.calls k2 ((rd_T27 x3_1 (ji7)).f0) ((rd_T27 x3_1 (ji7)).f1) ((rd_T27 x3_1 (ji7)).f2) ((rd_T27 x3_1 (ji7)).f3) ((rd_T27 x3_1 (ji7)).f4) ((rd_T27 x3_1 (ji7)).f5) ((rd_T27 x3_1 (ji7)).f6) ((rd_T27 x3_1 (ji7)).f7) ((rd_T27 l0 x4_1).f0) ((rd_T27 l0 x4_1).f1) ((rd_T27 l0 x4_1).f2) ((rd_T27 l0 x4_1).f3) ((rd_T27 l0 x4_1).f4) ((rd_T27 l0 x4_1).f5) ((rd_T27 l0 x4_1).f6) ((rd_T27 l0 x4_1).f7) t147 _ A12.out).mono ?_
                        rintro e w15 ⟨rfl, hb⟩
                        have HS0_ := (hb.cell (World.block_lt_of_cell? _ _ (hHeld.1))).trans (hHeld.1)
                        have HS1_ := (hb.cell (World.block_lt_of_cell? _ _ (hHeld.2.1))).trans (hHeld.2.1)
                        have HS2_ := (hb.cell (World.block_lt_of_cell? _ _ (hHeld.2.2.1))).trans (hHeld.2.2.1)
                        have HS3_ := (hb.cell (World.block_lt_of_cell? _ _ (hHeld.2.2.2.1))).trans (hHeld.2.2.2.1)
                        have HS4_ := (hb.cell (World.block_lt_of_cell? _ _ (hHeld.2.2.2.2.1))).trans (hHeld.2.2.2.2.1)
                        have HS5_ := (hb.cell (World.block_lt_of_cell? _ _ (hHeld.2.2.2.2.2.1))).trans (hHeld.2.2.2.2.2.1)
                        have HS6_ := (hb.cell (World.block_lt_of_cell? _ _ (hHeld.2.2.2.2.2.2.1))).trans (hHeld.2.2.2.2.2.2.1)
                        have HS7_ := (hb.cell (World.block_lt_of_cell? _ _ (hHeld.2.2.2.2.2.2.2.1))).trans (hHeld.2.2.2.2.2.2.2.1)
                        refine ⟨_, rfl, ?_⟩
                        have n0_ := Aside0.mk (Kd.R_below (by (with_reducible repeat (first | apply Kd.R_alloc | apply Kd.R_drewN | apply Kd.R_drew)); exact HO_3.out) hb)
                        have n1_ := Aside0.mk (below_step (by repeat (first | (with_reducible first | exact HB.out | apply below_alloc | apply pw_below_drewN | apply below_drew1) | exact HB.out)) hb)
                        clear HO_3
                        clear HB
                        have HO_3 := n0_
                        have HB := n1_
                        clear n0_ n1_
                        (try clear hb)
                        (try clear hb2)
                        (try clear hk)
                        (try clear hi)
                        refine hK.out _ _ ⟨HS0_, HS1_, HS2_, HS3_, HS4_, HS5_, HS6_, HS7_, ((HB.out.cell (World.block_lt_of_cell? w _ hw146_0)).trans hw146_0), ((HB.out.cell (World.block_lt_of_cell? w _ hw146_1)).trans hw146_1), ((HB.out.cell (World.block_lt_of_cell? w _ hw146_2)).trans hw146_2), ((HB.out.cell (World.block_lt_of_cell? w _ hw146_3)).trans hw146_3), ((HB.out.cell (World.block_lt_of_cell? w _ hw146_4)).trans hw146_4), ((HB.out.cell (World.block_lt_of_cell? w _ hw146_5)).trans hw146_5), ((HB.out.cell (World.block_lt_of_cell? w _ hw146_6)).trans hw146_6), ((HB.out.cell (World.block_lt_of_cell? w _ hw146_7)).trans hw146_7)⟩ (fun hHeld => ?_)
                        clear hK K
                        refine norm_ (a' := ?_) ?_ ?_
                        rotate_left
                        · show Act.put _ (some 28) _ = _
                          simp only [Act.put, List.setIfInBounds_toArray, List.set_cons_zero, List.set_cons_succ, i64_w, i32_w]
                          rfl
                        refine pure_ (i := 13) (N := some 29) (v := ?_) (a' := ?_) #[true, true, true, true, true, true, true, true, true, true, true, true, true, true, false] rfl rfl (any_of HT_.out (by kernel_rfl)) (fun _ _ _ h => h) (Or.inl ⟨by rfl, ?_⟩) ?_ ?_
                        rotate_left
                        · intro w'
                          go_simp
                          with_reducible rfl
                        rotate_left
                        · simp only [Act.put, List.setIfInBounds_toArray, List.set_cons_zero, List.set_cons_succ, i64_w, i32_w]
                          rfl
                        refine pure_ (i := 14) (N := some 30) (v := ?_) (a' := ?_) #[true, true, true, true, true, true, true, true, true, true, true, true, true, true, true] rfl rfl (any_of HT_.out (by kernel_rfl)) (fun _ _ _ h => h) (Or.inl ⟨by rfl, ?_⟩) ?_ ?_
                        rotate_left
                        · intro w'
                          go_simp
                          with_reducible rfl
                        rotate_left
                        · simp only [Act.put, List.setIfInBounds_toArray, List.set_cons_zero, List.set_cons_succ, i64_w, i32_w]
                          rfl
                        refine done_ (done_of HT_.out (by kernel_rfl)) ?_
                        try go_wp2
                        go_roundg k2
                        case measure => have := HK1.out; have := HK2.out; omega
                        case rel => exact ⟨(ji7), (by first | rfl | (simp; done) | (simp only [← hji7] <;> (first | rfl | simp)) | (simp [*]; done)), H', ⟨by have := HK1.out; have := HK2.out; omega⟩, ⟨by (with_reducible repeat (first | apply Kd.R_alloc | apply Kd.R_drewN | apply Kd.R_drew)); exact HO_3.out⟩, ⟨by repeat (first | (with_reducible first | exact HB.out | apply below_alloc | apply pw_below_drewN | apply below_drew1) | exact HB.out)⟩⟩
                      · rw [if_neg c13] at H
                        have c13b0 : decide (0 < t147) = false := decide_eq_false c13
                        clear c13
                        obtain ⟨y148, hy148⟩ : ∃ y_ : List (S27), y_ = (([] : List (S27))) := ⟨_, rfl⟩
                        replace H : (if 0 ≤ x5_2 then (if x5_2 ≤ (x3_1.length : Int) then ((some (x3_1.drop (x5_2 : Int).toNat : List (S27))).bind fun y151 => (if y148.length + y151.length < 1759218604441 then ((some (y148 ++ y151 : List (S27))).bind fun y155 => ((some (x3_1.take (x5_2 : Int).toNat : List (S27))).bind fun y158 => (if y158.length < 1759218604441 then ((some (y158 ++ [(⟨(rd_T27 l0 x4_1).f0, (rd_T27 l0 x4_1).f1, (rd_T27 l0 x4_1).f2, (rd_T27 l0 x4_1).f3, (rd_T27 l0 x4_1).f4, (rd_T27 l0 x4_1).f5, (rd_T27 l0 x4_1).f6, (rd_T27 l0 x4_1).f7⟩ : S27)] : List (S27))).bind fun y162 => (if y162.length + y155.length < 1759218604441 then (merkhetref01_Sort.l0 k2 l0 (y162 ++ y155) (wrap64 (x4_1 + 1))) else (none))) else (none)))) else (none))) else (none)) else (none)) = some r := by first | (rw [hy148]; with_reducible exact H) | (have H2_ := (Option.bind_some _ _).symm.trans H; rw [hy148]; with_reducible exact H2_) | (have H2_ := (Option.bind_some _ _).symm.trans H; with_reducible exact H2_) | with_reducible exact H | (rw [hy148]; exact H) | exact H
                        have Ny148 := Aside0.mk hy148
                        clear hy148
                        by_cases c16 : 0 ≤ x5_2
                        · rw [if_pos c16] at H
                          have c16b0 := eq_true c16
                          have c16b1 : decide (0 ≤ x5_2) = true := decide_eq_true c16
                          clear c16
                          by_cases c17 : x5_2 ≤ (x3_1.length : Int)
                          · rw [if_pos c17] at H
                            have c17b0 := eq_true c17
                            have c17b1 : decide (x5_2 ≤ (x3_1.length : Int)) = true := decide_eq_true c17
                            clear c17
                            obtain ⟨y151, hy151⟩ : ∃ y_ : List (S27), y_ = (x3_1.drop (x5_2 : Int).toNat) := ⟨_, rfl⟩
                            replace H : (if y148.length + y151.length < 1759218604441 then ((some (y148 ++ y151 : List (S27))).bind fun y155 => ((some (x3_1.take (x5_2 : Int).toNat : List (S27))).bind fun y158 => (if y158.length < 1759218604441 then ((some (y158 ++ [(⟨(rd_T27 l0 x4_1).f0, (rd_T27 l0 x4_1).f1, (rd_T27 l0 x4_1).f2, (rd_T27 l0 x4_1).f3, (rd_T27 l0 x4_1).f4, (rd_T27 l0 x4_1).f5, (rd_T27 l0 x4_1).f6, (rd_T27 l0 x4_1).f7⟩ : S27)] : List (S27))).bind fun y162 => (if y162.length + y155.length < 1759218604441 then (merkhetref01_Sort.l0 k2 l0 (y162 ++ y155) (wrap64 (x4_1 + 1))) else (none))) else (none)))) else (none)) = some r := by first | (rw [hy151]; with_reducible exact H) | (have H2_ := (Option.bind_some _ _).symm.trans H; rw [hy151]; with_reducible exact H2_) | (have H2_ := (Option.bind_some _ _).symm.trans H; with_reducible exact H2_) | with_reducible exact H | (rw [hy151]; exact H) | exact H
                            have Ny151 := Aside0.mk hy151
                            clear hy151
                            by_cases c18 : y148.length + y151.length < 1759218604441
                            · rw [if_pos c18] at H
                              have LMc18 := Aside0.mk c18
                              clear c18
                              obtain ⟨y155, hy155⟩ : ∃ y_ : List (S27), y_ = (y148 ++ y151) := ⟨_, rfl⟩
                              replace H : ((some (x3_1.take (x5_2 : Int).toNat : List (S27))).bind fun y158 => (if y158.length < 1759218604441 then ((some (y158 ++ [(⟨(rd_T27 l0 x4_1).f0, (rd_T27 l0 x4_1).f1, (rd_T27 l0 x4_1).f2, (rd_T27 l0 x4_1).f3, (rd_T27 l0 x4_1).f4, (rd_T27 l0 x4_1).f5, (rd_T27 l0 x4_1).f6, (rd_T27 l0 x4_1).f7⟩ : S27)] : List (S27))).bind fun y162 => (if y162.length + y155.length < 1759218604441 then (merkhetref01_Sort.l0 k2 l0 (y162 ++ y155) (wrap64 (x4_1 + 1))) else (none))) else (none))) = some r := by first | (rw [hy155]; with_reducible exact H) | (have H2_ := (Option.bind_some _ _).symm.trans H; rw [hy155]; with_reducible exact H2_) | (have H2_ := (Option.bind_some _ _).symm.trans H; with_reducible exact H2_) | with_reducible exact H | (rw [hy155]; exact H) | exact H
                              have Ny155 := Aside0.mk hy155
                              clear hy155
                              have c19b0 := eq_true (of_decide_eq_true (by first | (with_reducible assumption) | assumption) : x5_2 ≤ (x3_1.length : Int))
                              obtain ⟨y158, hy158⟩ : ∃ y_ : List (S27), y_ = (x3_1.take (x5_2 : Int).toNat) := ⟨_, rfl⟩
                              replace H : (if y158.length < 1759218604441 then ((some (y158 ++ [(⟨(rd_T27 l0 x4_1).f0, (rd_T27 l0 x4_1).f1, (rd_T27 l0 x4_1).f2, (rd_T27 l0 x4_1).f3, (rd_T27 l0 x4_1).f4, (rd_T27 l0 x4_1).f5, (rd_T27 l0 x4_1).f6, (rd_T27 l0 x4_1).f7⟩ : S27)] : List (S27))).bind fun y162 => (if y162.length + y155.length < 1759218604441 then (merkhetref01_Sort.l0 k2 l0 (y162 ++ y155) (wrap64 (x4_1 + 1))) else (none))) else (none)) = some r := by first | (rw [hy158]; with_reducible exact H) | (have H2_ := (Option.bind_some _ _).symm.trans H; rw [hy158]; with_reducible exact H2_) | (have H2_ := (Option.bind_some _ _).symm.trans H; with_reducible exact H2_) | with_reducible exact H | (rw [hy158]; exact H) | exact H
                              have Ny158 := Aside0.mk hy158
                              clear hy158
                              by_cases c20 : y158.length < 1759218604441
                              · rw [if_pos c20] at H
                                have LMc20 := Aside0.mk c20
                                clear c20
                                obtain ⟨y162, hy162⟩ : ∃ y_ : List (S27), y_ = (y158 ++ [(⟨(rd_T27 l0 x4_1).f0, (rd_T27 l0 x4_1).f1, (rd_T27 l0 x4_1).f2, (rd_T27 l0 x4_1).f3, (rd_T27 l0 x4_1).f4, (rd_T27 l0 x4_1).f5, (rd_T27 l0 x4_1).f6, (rd_T27 l0 x4_1).f7⟩ : S27)]) := ⟨_, rfl⟩
                                replace H : (if y162.length + y155.length < 1759218604441 then (merkhetref01_Sort.l0 k2 l0 (y162 ++ y155) (wrap64 (x4_1 + 1))) else (none)) = some r := by first | (rw [hy162]; with_reducible exact H) | (have H2_ := (Option.bind_some _ _).symm.trans H; rw [hy162]; with_reducible exact H2_) | (have H2_ := (Option.bind_some _ _).symm.trans H; with_reducible exact H2_) | with_reducible exact H | (rw [hy162]; exact H) | exact H
                                have Ny162 := Aside0.mk hy162
                                clear hy162
                                by_cases c21 : y162.length + y155.length < 1759218604441
                                · rw [if_pos c21] at H
                                  have LMc21 := Aside0.mk c21
                                  clear c21
                                  obtain ⟨y165, hy165⟩ : ∃ y_ : List (S27), y_ = (y162 ++ y155) := ⟨_, rfl⟩
                                  replace H : (merkhetref01_Sort.l0 k2 l0 y165 (wrap64 (x4_1 + 1))) = some r := by first | (rw [hy165]; with_reducible exact H) | (have H2_ := (Option.bind_some _ _).symm.trans H; rw [hy165]; with_reducible exact H2_) | (have H2_ := (Option.bind_some _ _).symm.trans H; with_reducible exact H2_) | with_reducible exact H | (rw [hy165]; exact H) | exact H
                                  have Ny165 := Aside0.mk hy165
                                  clear hy165
                                  have H' := Aside0.mk H
                                  clear H
                                  try go_wp2
                                  have n0_ := Aside0.mk (Kd.R_drew HO_3.out)
                                  have n1_ := Aside0.mk (below_drew1 HB.out)
                                  clear HO_3
                                  clear HB
                                  have HO_3 := n0_
                                  have HB := n1_
                                  clear n0_ n1_
                                  have p145 : 0 ≤ ((ji7) : Int) := of_decide_eq_true (by first | (with_reducible assumption) | assumption)
                                  have q145 : (ji7) < (x3_1.length : Int) := of_decide_eq_true (by first | (with_reducible assumption) | assumption)
                                  obtain ⟨ad145, e145, hx145_0, hx145_1, hx145_2, hx145_3, hx145_4, hx145_5, hx145_6, hx145_7⟩ := at_T27 (Kd.R_reads' HO_3.out).2.2 (ji7) p145 q145
                                  cases e145
                                  replace p145 := eq_true p145
                                  replace q145 := eq_true q145
                                  have p146 : 0 ≤ (x4_1 : Int) := of_decide_eq_true (by first | (with_reducible assumption) | assumption)
                                  have q146 : x4_1 < (l0.length : Int) := of_decide_eq_true (by first | (with_reducible assumption) | assumption)
                                  obtain ⟨ad146, e146, hx146_0, hx146_1, hx146_2, hx146_3, hx146_4, hx146_5, hx146_6, hx146_7⟩ := at_T27 HR0.out x4_1 p146 q146
                                  have hw146_7 := hx146_7
                                  have hw146_6 := hx146_6
                                  have hw146_5 := hx146_5
                                  have hw146_4 := hx146_4
                                  have hw146_3 := hx146_3
                                  have hw146_2 := hx146_2
                                  have hw146_1 := hx146_1
                                  have hw146_0 := hx146_0
                                  cases e146
                                  replace hx146_0 := (HB.out.cell (World.block_lt_of_cell? w _ hx146_0)).trans hx146_0
                                  replace hx146_1 := (HB.out.cell (World.block_lt_of_cell? w _ hx146_1)).trans hx146_1
                                  replace hx146_2 := (HB.out.cell (World.block_lt_of_cell? w _ hx146_2)).trans hx146_2
                                  replace hx146_3 := (HB.out.cell (World.block_lt_of_cell? w _ hx146_3)).trans hx146_3
                                  replace hx146_4 := (HB.out.cell (World.block_lt_of_cell? w _ hx146_4)).trans hx146_4
                                  replace hx146_5 := (HB.out.cell (World.block_lt_of_cell? w _ hx146_5)).trans hx146_5
                                  replace hx146_6 := (HB.out.cell (World.block_lt_of_cell? w _ hx146_6)).trans hx146_6
                                  replace hx146_7 := (HB.out.cell (World.block_lt_of_cell? w _ hx146_7)).trans hx146_7
                                  replace p146 := eq_true p146
                                  replace q146 := eq_true q146
                                  refine start_ (n := 15) (S := fun w' => w'.cell? (ad145.add (((ji7)).toNat * 8)) = some (.int .u64 ((rd_T27 x3_1 (ji7)).f0)) ∧ w'.cell? ⟨(ad145.add (((ji7)).toNat * 8)).block, (ad145.add (((ji7)).toNat * 8)).off + 1, none⟩ = some (.int .u64 ((rd_T27 x3_1 (ji7)).f1)) ∧ w'.cell? ⟨(ad145.add (((ji7)).toNat * 8)).block, (ad145.add (((ji7)).toNat * 8)).off + 2, none⟩ = some (.int .u64 ((rd_T27 x3_1 (ji7)).f2)) ∧ w'.cell? ⟨(ad145.add (((ji7)).toNat * 8)).block, (ad145.add (((ji7)).toNat * 8)).off + 3, none⟩ = some (.int .u8 ((rd_T27 x3_1 (ji7)).f3)) ∧ w'.cell? ⟨(ad145.add (((ji7)).toNat * 8)).block, (ad145.add (((ji7)).toNat * 8)).off + 4, none⟩ = some (.string ((rd_T27 x3_1 (ji7)).f4)) ∧ w'.cell? ⟨(ad145.add (((ji7)).toNat * 8)).block, (ad145.add (((ji7)).toNat * 8)).off + 5, none⟩ = some (.string ((rd_T27 x3_1 (ji7)).f5)) ∧ w'.cell? ⟨(ad145.add (((ji7)).toNat * 8)).block, (ad145.add (((ji7)).toNat * 8)).off + 6, none⟩ = some (.int .i64 ((rd_T27 x3_1 (ji7)).f6)) ∧ w'.cell? ⟨(ad145.add (((ji7)).toNat * 8)).block, (ad145.add (((ji7)).toNat * 8)).off + 7, none⟩ = some (.int .i64 ((rd_T27 x3_1 (ji7)).f7)) ∧ w'.cell? (ad146.add ((x4_1).toNat * 8)) = some (.int .u64 ((rd_T27 l0 x4_1).f0)) ∧ w'.cell? ⟨(ad146.add ((x4_1).toNat * 8)).block, (ad146.add ((x4_1).toNat * 8)).off + 1, none⟩ = some (.int .u64 ((rd_T27 l0 x4_1).f1)) ∧ w'.cell? ⟨(ad146.add ((x4_1).toNat * 8)).block, (ad146.add ((x4_1).toNat * 8)).off + 2, none⟩ = some (.int .u64 ((rd_T27 l0 x4_1).f2)) ∧ w'.cell? ⟨(ad146.add ((x4_1).toNat * 8)).block, (ad146.add ((x4_1).toNat * 8)).off + 3, none⟩ = some (.int .u8 ((rd_T27 l0 x4_1).f3)) ∧ w'.cell? ⟨(ad146.add ((x4_1).toNat * 8)).block, (ad146.add ((x4_1).toNat * 8)).off + 4, none⟩ = some (.string ((rd_T27 l0 x4_1).f4)) ∧ w'.cell? ⟨(ad146.add ((x4_1).toNat * 8)).block, (ad146.add ((x4_1).toNat * 8)).off + 5, none⟩ = some (.string ((rd_T27 l0 x4_1).f5)) ∧ w'.cell? ⟨(ad146.add ((x4_1).toNat * 8)).block, (ad146.add ((x4_1).toNat * 8)).off + 6, none⟩ = some (.int .i64 ((rd_T27 l0 x4_1).f6)) ∧ w'.cell? ⟨(ad146.add ((x4_1).toNat * 8)).block, (ad146.add ((x4_1).toNat * 8)).off + 7, none⟩ = some (.int .i64 ((rd_T27 l0 x4_1).f7))) (ds := []) #[false, false, false, false, false, false, false, false, false, false, false, false, false, false, false] (by kernel_rfl) rfl rfl ⟨hx145_0, hx145_1, hx145_2, hx145_3, hx145_4, hx145_5, hx145_6, hx145_7, ((HB.out.cell (World.block_lt_of_cell? w _ hw146_0)).trans hw146_0), ((HB.out.cell (World.block_lt_of_cell? w _ hw146_1)).trans hw146_1), ((HB.out.cell (World.block_lt_of_cell? w _ hw146_2)).trans hw146_2), ((HB.out.cell (World.block_lt_of_cell? w _ hw146_3)).trans hw146_3), ((HB.out.cell (World.block_lt_of_cell? w _ hw146_4)).trans hw146_4), ((HB.out.cell (World.block_lt_of_cell? w _ hw146_5)).trans hw146_5), ((HB.out.cell (World.block_lt_of_cell? w _ hw146_6)).trans hw146_6), ((HB.out.cell (World.block_lt_of_cell? w _ hw146_7)).trans hw146_7)⟩ (fun hHeld => ?_); refine with_tabW merkhetref01_Sort.tab6 merkhetref01_Sort.bits6 (fun HT_ HW_ => ?_)
                                  generalize wr.drew = w22 at HO_3 HB hx145_0 hx145_1 hx145_2 hx145_3 hx145_4 hx145_5 hx145_6 hx145_7 hx146_0 hx146_1 hx146_2 hx146_3 hx146_4 hx146_5 hx146_6 hx146_7 hHeld ⊢
                                  refine pure_ (i := 0) (N := some 16) (v := ?_) (a' := ?_) #[true, false, false, false, false, false, false, false, false, false, false, false, false, false, false] rfl rfl (any_of HT_.out (by kernel_rfl)) (fun _ _ _ h => h) (Or.inl ⟨by rfl, ?_⟩) ?_ ?_
                                  rotate_left
                                  · intro w'
                                    go_simp
                                    with_reducible rfl
                                  rotate_left
                                  · simp only [Act.put, List.setIfInBounds_toArray, List.set_cons_zero, List.set_cons_succ, i64_w, i32_w]
                                    rfl
                                  refine pure_ (i := 1) (N := some 17) (v := ?_) (a' := ?_) #[true, true, false, false, false, false, false, false, false, false, false, false, false, false, false] rfl rfl (any_of HT_.out (by kernel_rfl)) (fun _ _ _ h => h) (Or.inl ⟨by rfl, ?_⟩) ?_ ?_
                                  rotate_left
                                  · intro w'
                                    go_simp
                                    with_reducible rfl
                                  rotate_left
                                  · simp only [Act.put, List.setIfInBounds_toArray, List.set_cons_zero, List.set_cons_succ, i64_w, i32_w]
                                    rfl
                                  refine pure_ (i := 2) (N := some 18) (v := ?_) (a' := ?_) #[true, true, true, false, false, false, false, false, false, false, false, false, false, false, false] rfl rfl (any_of HT_.out (by kernel_rfl)) (fun _ _ _ h => h) (Or.inl ⟨by rfl, ?_⟩) ?_ ?_
                                  rotate_left
                                  · intro w'
                                    go_simp
                                    with_reducible rfl
                                  rotate_left
                                  · simp only [Act.put, List.setIfInBounds_toArray, List.set_cons_zero, List.set_cons_succ, i64_w, i32_w]
                                    rfl
                                  refine pure_ (i := 3) (N := some 19) (v := ?_) (a' := ?_) #[true, true, true, true, false, false, false, false, false, false, false, false, false, false, false] rfl rfl (any_of HT_.out (by kernel_rfl)) (fun _ _ _ h => h) (Or.inl ⟨by rfl, ?_⟩) ?_ ?_
                                  rotate_left
                                  · intro w'
                                    go_simp
                                    with_reducible rfl
                                  rotate_left
                                  · simp only [Act.put, List.setIfInBounds_toArray, List.set_cons_zero, List.set_cons_succ, i64_w, i32_w]
                                    rfl
                                  refine pure_ (i := 4) (N := some 20) (v := ?_) (a' := ?_) #[true, true, true, true, true, false, false, false, false, false, false, false, false, false, false] rfl rfl (any_of HT_.out (by kernel_rfl)) (fun _ _ _ h => h) (Or.inl ⟨by rfl, ?_⟩) ?_ ?_
                                  rotate_left
                                  · intro w'
                                    go_simp
                                    with_reducible rfl
                                  rotate_left
                                  · simp only [Act.put, List.setIfInBounds_toArray, List.set_cons_zero, List.set_cons_succ, i64_w, i32_w]
                                    rfl
                                  refine pure_ (i := 5) (N := some 21) (v := ?_) (a' := ?_) #[true, true, true, true, true, true, false, false, false, false, false, false, false, false, false] rfl rfl (any_of HT_.out (by kernel_rfl)) (fun _ _ _ h => h) (Or.inl ⟨by rfl, ?_⟩) ?_ ?_
                                  rotate_left
                                  · intro w'
                                    go_simp
                                    with_reducible rfl
                                  rotate_left
                                  · simp only [Act.put, List.setIfInBounds_toArray, List.set_cons_zero, List.set_cons_succ, i64_w, i32_w]
                                    rfl
                                  refine pure_ (i := 6) (N := some 22) (v := ?_) (a' := ?_) #[true, true, true, true, true, true, true, false, false, false, false, false, false, false, false] rfl rfl (any_of HT_.out (by kernel_rfl)) (fun _ _ _ h => h) (Or.inl ⟨by rfl, ?_⟩) ?_ ?_
                                  rotate_left
                                  · intro w'
                                    go_simp
                                    with_reducible rfl
                                  rotate_left
                                  · simp only [Act.put, List.setIfInBounds_toArray, List.set_cons_zero, List.set_cons_succ, i64_w, i32_w]
                                    rfl
                                  refine pure_ (i := 8) (N := some 24) (v := ?_) (a' := ?_) #[true, true, true, true, true, true, true, false, true, false, false, false, false, false, false] rfl rfl (any_of HT_.out (by kernel_rfl)) (fun _ _ _ h => h) (Or.inl ⟨by rfl, ?_⟩) ?_ ?_
                                  rotate_left
                                  · intro w'
                                    go_simp
                                    with_reducible rfl
                                  rotate_left
                                  · simp only [Act.put, List.setIfInBounds_toArray, List.set_cons_zero, List.set_cons_succ, i64_w, i32_w]
                                    rfl
                                  refine pure_ (i := 9) (N := some 25) (v := ?_) (a' := ?_) #[true, true, true, true, true, true, true, false, true, true, false, false, false, false, false] rfl rfl (any_of HT_.out (by kernel_rfl)) (fun _ _ _ h => h) (Or.inl ⟨by rfl, ?_⟩) ?_ ?_
                                  rotate_left
                                  · intro w'
                                    go_simp
                                    with_reducible rfl
                                  rotate_left
                                  · simp only [Act.put, List.setIfInBounds_toArray, List.set_cons_zero, List.set_cons_succ, i64_w, i32_w]
                                    rfl
                                  refine pure_ (i := 10) (N := some 26) (v := ?_) (a' := ?_) #[true, true, true, true, true, true, true, false, true, true, true, false, false, false, false] rfl rfl (any_of HT_.out (by kernel_rfl)) (fun _ _ _ h => h) (Or.inl ⟨by rfl, ?_⟩) ?_ ?_
                                  rotate_left
                                  · intro w'
                                    go_simp
                                    with_reducible rfl
                                  rotate_left
                                  · simp only [Act.put, List.setIfInBounds_toArray, List.set_cons_zero, List.set_cons_succ, i64_w, i32_w]
                                    rfl
                                  refine take_ (i := 7) (N := some 23) (v := ?_) (a' := ?_) #[true, true, true, true, true, true, true, true, true, true, true, false, false, false, false] rfl rfl (take_ofW HT_.out HW_.out (by kernel_rfl)) (fun _ _ _ h => h) (Or.inl ⟨by rfl, ?_⟩) hHeld ?_ ?_
                                  rotate_left
                                  · rintro w' ⟨s0, s1, s2, s3, s4, s5, s6, s7, s8, s9, s10, s11, s12, s13, s14, s15⟩
                                    go_simp
                                    with_reducible rfl
                                  rotate_left
                                  · simp only [Act.put, List.setIfInBounds_toArray, List.set_cons_zero, List.set_cons_succ, i64_w, i32_w]
                                    rfl
                                  refine take_ (i := 11) (N := some 27) (v := ?_) (a' := ?_) #[true, true, true, true, true, true, true, true, true, true, true, true, false, false, false] rfl rfl (take_ofW HT_.out HW_.out (by kernel_rfl)) (fun _ _ _ h => h) (Or.inl ⟨by rfl, ?_⟩) hHeld ?_ ?_
                                  rotate_left
                                  · rintro w' ⟨s0, s1, s2, s3, s4, s5, s6, s7, s8, s9, s10, s11, s12, s13, s14, s15⟩
                                    go_simp
                                    with_reducible rfl
                                  rotate_left
                                  · simp only [Act.put, List.setIfInBounds_toArray, List.set_cons_zero, List.set_cons_succ, i64_w, i32_w]
                                    rfl
                                  refine one_ (i := 12) (N := some 28) #[true, true, true, true, true, true, true, true, true, true, true, true, true, false, false] rfl rfl (one_of HT_.out (by kernel_rfl)) (by decide) (fun K hK => ?_)
                                  refine goes_ Try.func38 (by kernel_rfl) rfl #[.agg #[.int .u64 ((rd_T27 x3_1 (ji7)).f0), .int .u64 ((rd_T27 x3_1 (ji7)).f1), .int .u64 ((rd_T27 x3_1 (ji7)).f2), .int .u8 ((rd_T27 x3_1 (ji7)).f3), .string ((rd_T27 x3_1 (ji7)).f4), .string ((rd_T27 x3_1 (ji7)).f5), .int .i64 ((rd_T27 x3_1 (ji7)).f6), .int .i64 ((rd_T27 x3_1 (ji7)).f7)], .agg #[.int .u64 ((rd_T27 l0 x4_1).f0), .int .u64 ((rd_T27 l0 x4_1).f1), .int .u64 ((rd_T27 l0 x4_1).f2), .int .u8 ((rd_T27 l0 x4_1).f3), .string ((rd_T27 l0 x4_1).f4), .string ((rd_T27 l0 x4_1).f5), .int .i64 ((rd_T27 l0 x4_1).f6), .int .i64 ((rd_T27 l0 x4_1).f7)]] (by rfl) rfl rfl (by (try simp only [List.map_toArray, List.map_cons, List.map_nil]); first | done | (simp only [hji7]; rfl) | rfl | (simp only [List.length_drop, List.length_take]; rfl)) ?_
                                  with_reducible refine (merkhetref01_Cmp.calls k2 ((rd_T27 x3_1 (ji7)).f0) ((rd_T27 x3_1 (ji7)).f1) ((rd_T27 x3_1 (ji7)).f2) ((rd_T27 x3_1 (ji7)).f3) ((rd_T27 x3_1 (ji7)).f4) ((rd_T27 x3_1 (ji7)).f5) ((rd_T27 x3_1 (ji7)).f6) ((rd_T27 x3_1 (ji7)).f7) ((rd_T27 l0 x4_1).f0) ((rd_T27 l0 x4_1).f1) ((rd_T27 l0 x4_1).f2) ((rd_T27 l0 x4_1).f3) ((rd_T27 l0 x4_1).f4) ((rd_T27 l0 x4_1).f5) ((rd_T27 l0 x4_1).f6) ((rd_T27 l0 x4_1).f7) t147 _ A12.out).mono ?_
                                  rintro e w23 ⟨rfl, hb⟩
                                  have HS0_ := (hb.cell (World.block_lt_of_cell? _ _ (hHeld.1))).trans (hHeld.1)
                                  have HS1_ := (hb.cell (World.block_lt_of_cell? _ _ (hHeld.2.1))).trans (hHeld.2.1)
                                  have HS2_ := (hb.cell (World.block_lt_of_cell? _ _ (hHeld.2.2.1))).trans (hHeld.2.2.1)
                                  have HS3_ := (hb.cell (World.block_lt_of_cell? _ _ (hHeld.2.2.2.1))).trans (hHeld.2.2.2.1)
                                  have HS4_ := (hb.cell (World.block_lt_of_cell? _ _ (hHeld.2.2.2.2.1))).trans (hHeld.2.2.2.2.1)
                                  have HS5_ := (hb.cell (World.block_lt_of_cell? _ _ (hHeld.2.2.2.2.2.1))).trans (hHeld.2.2.2.2.2.1)
                                  have HS6_ := (hb.cell (World.block_lt_of_cell? _ _ (hHeld.2.2.2.2.2.2.1))).trans (hHeld.2.2.2.2.2.2.1)
                                  have HS7_ := (hb.cell (World.block_lt_of_cell? _ _ (hHeld.2.2.2.2.2.2.2.1))).trans (hHeld.2.2.2.2.2.2.2.1)
                                  refine ⟨_, rfl, ?_⟩
                                  have n0_ := Aside0.mk (Kd.R_below (by (with_reducible repeat (first | apply Kd.R_alloc | apply Kd.R_drewN | apply Kd.R_drew)); exact HO_3.out) hb)
                                  have n1_ := Aside0.mk (below_step (by repeat (first | (with_reducible first | exact HB.out | apply below_alloc | apply pw_below_drewN | apply below_drew1) | exact HB.out)) hb)
                                  clear HO_3
                                  clear HB
                                  have HO_3 := n0_
                                  have HB := n1_
                                  clear n0_ n1_
                                  (try clear hb)
                                  (try clear hb2)
                                  (try clear hk)
                                  (try clear hi)
                                  refine hK.out _ _ ⟨HS0_, HS1_, HS2_, HS3_, HS4_, HS5_, HS6_, HS7_, ((HB.out.cell (World.block_lt_of_cell? w _ hw146_0)).trans hw146_0), ((HB.out.cell (World.block_lt_of_cell? w _ hw146_1)).trans hw146_1), ((HB.out.cell (World.block_lt_of_cell? w _ hw146_2)).trans hw146_2), ((HB.out.cell (World.block_lt_of_cell? w _ hw146_3)).trans hw146_3), ((HB.out.cell (World.block_lt_of_cell? w _ hw146_4)).trans hw146_4), ((HB.out.cell (World.block_lt_of_cell? w _ hw146_5)).trans hw146_5), ((HB.out.cell (World.block_lt_of_cell? w _ hw146_6)).trans hw146_6), ((HB.out.cell (World.block_lt_of_cell? w _ hw146_7)).trans hw146_7)⟩ (fun hHeld => ?_)
                                  clear hK K
                                  refine norm_ (a' := ?_) ?_ ?_
                                  rotate_left
                                  · show Act.put _ (some 28) _ = _
                                    simp only [Act.put, List.setIfInBounds_toArray, List.set_cons_zero, List.set_cons_succ, i64_w, i32_w]
                                    rfl
                                  refine pure_ (i := 13) (N := some 29) (v := ?_) (a' := ?_) #[true, true, true, true, true, true, true, true, true, true, true, true, true, true, false] rfl rfl (any_of HT_.out (by kernel_rfl)) (fun _ _ _ h => h) (Or.inl ⟨by rfl, ?_⟩) ?_ ?_
                                  rotate_left
                                  · intro w'
                                    go_simp
                                    with_reducible rfl
                                  rotate_left
                                  · simp only [Act.put, List.setIfInBounds_toArray, List.set_cons_zero, List.set_cons_succ, i64_w, i32_w]
                                    rfl
                                  refine pure_ (i := 14) (N := some 30) (v := ?_) (a' := ?_) #[true, true, true, true, true, true, true, true, true, true, true, true, true, true, true] rfl rfl (any_of HT_.out (by kernel_rfl)) (fun _ _ _ h => h) (Or.inl ⟨by rfl, ?_⟩) ?_ ?_
                                  rotate_left
                                  · intro w'
                                    go_simp
                                    with_reducible rfl
                                  rotate_left
                                  · simp only [Act.put, List.setIfInBounds_toArray, List.set_cons_zero, List.set_cons_succ, i64_w, i32_w]
                                    rfl
                                  refine done_ (done_of HT_.out (by kernel_rfl)) ?_
                                  try go_wp2_with (first | ((with_reducible refine gate_dst (N := 33) rfl ?_); refine Kd.R_lit k27 _ 27 ?hg (N := 33) ?hd (xs := ([] : List (S27))) (inner := []) (ok := fun _ => True) (okp := fun _ => True) ?hr ?hp (fun _ hk => hk) trivial (Below.refl _ _) (Nat.le_refl _) (by simp) ?_; (case hd => rfl); (case hg => rfl); (case hr => first | (go_simp; done) | (go_simp; rfl)); (case hp => exact (Reps.none _ _)); intro v149 w24 ho25 hb hg_ hnew_; clear hg_ hnew_; (first | rw [← Ny148.out] at ho25 | (simp only [Int.reduceToNat] at ho25; rw [← Ny148.out] at ho25)); have n0_ := Aside0.mk (Kd.R_elder' (by (with_reducible repeat (first | apply Kd.R_alloc | apply Kd.R_drewN | apply Kd.R_drew)); exact HO_3.out) (Kd.R_base ho25) hb); have n1_ := Aside0.mk (Kd.R_lower (Kd.R_new' ho25 (Kd.R_lt (by (with_reducible repeat (first | apply Kd.R_alloc | apply Kd.R_drewN | apply Kd.R_drew)); exact HO_3.out))) (below_size (by repeat (first | (with_reducible first | exact HB.out | apply below_alloc | apply pw_below_drewN | apply below_drew1) | exact HB.out)))); have n2_ := Aside0.mk (below_step (by repeat (first | (with_reducible first | exact HB.out | apply below_alloc | apply pw_below_drewN | apply below_drew1) | exact HB.out)) hb); clear HO_3; clear HB; have HO_3 := n0_; have HO150 := n1_; have HB := n2_; clear n0_ n1_ n2_; clear hb ho25; have q26 : (x5_2 : Int) ≤ ((x3_1.length : Int) : Int) := of_decide_eq_true (by first | (with_reducible assumption) | assumption); obtain ⟨i026, hi026, _, hsz26, _⟩ := info_parts info27; have hroom26 : x3_1.length ≤ co5 := (Kd.R_reads' HO_3.out).2.1; have hC26 : Kd.C k27 _ (some ad145) x3_1.length x3_1 := (Kd.R_reads' HO_3.out).2.2; have q026 : (0 : Int) ≤ (x5_2 : Int) := of_decide_eq_true (by first | (with_reducible assumption) | assumption); have hcut26 := cut_from (P := Try.prog) 23 27 .i64 Try.underlying23 hi026 8 hsz26 (some ad145) x3_1.length co5 x5_2 q026 q26; have hr26 := Kd.C_drop (m := (x5_2 : Int).toNat) (c := co5) hC26 (by omega) hroom26; obtain ⟨A26, hA26⟩ : ∃ A1, A1 = (if co5 = (x5_2 : Int).toNat then (some ad145) else ((some ad145) : Option Addr).map (·.add ((x5_2 : Int).toNat * 8))) := ⟨_, rfl⟩; obtain ⟨c26, hc26⟩ : ∃ c1, c1 = co5 - (x5_2 : Int).toNat := ⟨_, rfl⟩; have hy26 : y151.length = x3_1.length - (x5_2 : Int).toNat := (by rw [Ny151.out, List.length_drop] <;> omega); rw [show (x3_1).drop (x5_2 : Int).toNat = y151 from Ny151.out.symm] at hr26; replace hr26 : Kd.C k27 _ A26 y151.length y151 := (by rw [hA26]; exact hr26); rw [← hy26, ← hA26, ← hc26] at hcut26; have HR154 := Aside0.mk hr26; have HC154 := Aside0.mk (show y151.length ≤ c26 from by rw [hy26, hc26]; exact Nat.sub_le_sub_right hroom26 _); clear hr26 hC26 hroom26 hi026 hsz26 hc26; have KY26 := Aside0.mk hy26; have KA26 := Aside0.mk hA26; clear hy26 hA26; have KL26 := Aside0.mk (show (x5_2 : Int).toNat ≤ x3_1.length from by omega); replace q26 := eq_true q26) | ((with_reducible refine gate_builtin (b := .append) (xs := #[.tmp 33, .tmp 36]) rfl ?_); at_builtin; refine Kd.R_append_rows k27 (w0 := w) w.heap.size rfl (.tmp 33) (.tmp 36) 23 27 (.agg #[(.int .u64 0), (.int .u64 0), (.int .u64 0), (.int .u8 0), (.string ⟨#[]⟩), (.string ⟨#[]⟩), (.int .i64 0), (.int .i64 0)]) 80 rfl Try.underlying23 info27 rfl (by decide) (by omega) v149 y148 y151 _ _ _ (fun k_ => some k_ ≠ (.slice (some ad145) x3_1.length co5 : Value).ownBlock) (fun _ => False) rfl rfl ?aO ?aR (fun _ _ h => h) (fun _ h => h.elim) ?aF ?aB ?aS ?aL ?_; (case aR => repeat (first | exact (by repeat (first | (with_reducible exact HR154.out) | (with_reducible refine Kd.C_alloc ?_ _) | (with_reducible refine Kd.C_drewN ?_ _) | (with_reducible refine Kd.C_drew ?_) | exact HR154.out)) | (with_reducible refine Kd.C_alloc ?_ _) | (with_reducible refine Kd.C_drewN ?_ _) | (with_reducible refine Kd.C_drew ?_))); (case aB => exact (by repeat (first | (with_reducible first | exact HB.out | apply below_alloc | apply pw_below_drewN | apply below_drew1) | exact HB.out))); (case aF => exact (fun k_ hk => Kd.fresh' (Kd.R_lt (by (with_reducible repeat (first | apply Kd.R_alloc | apply Kd.R_drewN | apply Kd.R_drew)); exact HO_3.out)) k_ hk)); (case aO => exact (by (with_reducible repeat (first | apply Kd.R_alloc | apply Kd.R_drewN | apply Kd.R_drew)); exact Kd.R_mono HO150.out (fun _ hk => hk.2))); (case aS => exact (below_size (by repeat (first | (with_reducible first | exact HB.out | apply below_alloc | apply pw_below_drewN | apply below_drew1) | exact HB.out)))); (case aL => have := LMc18.out; omega); intro v156 w27 ho hb hg hat; rw [← Ny155.out] at ho; have n0_ := Aside0.mk (Kd.R_after (ok := (fun _ => True)) (by (with_reducible repeat (first | apply Kd.R_alloc | apply Kd.R_drewN | apply Kd.R_drew)); exact HO_3.out) hg hat); have n1_ := Aside0.mk (hb); have n2_ := Aside0.mk ((show Kd.C k27 w27 A26 y151.length y151 from by rw [Ny151.out, KA26.out]; exact Kd.C_drop (m := (x5_2 : Int).toNat) (c := co5) ((Kd.R_reads' (Kd.R_after (ok := (fun _ => True)) (by (with_reducible repeat (first | apply Kd.R_alloc | apply Kd.R_drewN | apply Kd.R_drew)); exact HO_3.out) hg hat)).2.2) KL26.out ((Kd.R_reads' (Kd.R_after (ok := (fun _ => True)) (by (with_reducible repeat (first | apply Kd.R_alloc | apply Kd.R_drewN | apply Kd.R_drew)); exact HO_3.out) hg hat)).2.1))); have n3_ := Aside0.mk (ho); clear HO_3; clear HB; clear HR154; clear HO150; have HO_3 := n0_; have HB := n1_; have HR154 := n2_; have HO157 := n3_; clear n0_ n1_ n2_ n3_; clear ho hb hg hat))
                                  have n0_ := Aside0.mk (Kd.R_drew HO_3.out)
                                  have n1_ := Aside0.mk (Kd.R_drew HO157.out)
                                  have n2_ := Aside0.mk (Kd.C_drew HR154.out)
                                  have n3_ := Aside0.mk (below_drew1 HB.out)
                                  clear HO_3
                                  clear HO157
                                  clear HR154
                                  clear HB
                                  have HO_3 := n0_
                                  have HO157 := n1_
                                  have HR154 := n2_
                                  have HB := n3_
                                  clear n0_ n1_ n2_ n3_
                                  have q29 : (x5_2 : Int) ≤ ((x3_1.length : Int) : Int) := of_decide_eq_true (by first | (with_reducible assumption) | assumption)
                                  obtain ⟨i029, hi029, _, hsz29, _⟩ := info_parts info27
                                  have hcut29 := cut_to (P := Try.prog) 23 27 .i64 Try.underlying23 hi029 (some ad145) x3_1.length co5 x5_2 (of_decide_eq_true (by first | (with_reducible assumption) | assumption)) q29 (Kd.R_reads' HO_3.out).2.1
                                  have hr29 := Kd.R_take (m := (x5_2 : Int).toNat) HO_3.out (by omega)
                                  have hy29 : y158.length = (x5_2 : Int).toNat := (by rw [Ny158.out, List.length_take]; omega)
                                  rw [← Ny158.out] at hr29
                                  rw [← hy29] at hr29 hcut29
                                  clear hy29 hi029 hsz29 HO_3
                                  have HO160 := Aside0.mk hr29
                                  clear hr29
                                  replace q29 := eq_true q29
                                  have p161 : 0 ≤ (x4_1 : Int) := of_decide_eq_true (by first | (with_reducible assumption) | assumption)
                                  have q161 : x4_1 < (l0.length : Int) := of_decide_eq_true (by first | (with_reducible assumption) | assumption)
                                  obtain ⟨ad161, e161, hx161_0, hx161_1, hx161_2, hx161_3, hx161_4, hx161_5, hx161_6, hx161_7⟩ := at_T27 HR0.out x4_1 p161 q161
                                  have hw161_7 := hx161_7
                                  have hw161_6 := hx161_6
                                  have hw161_5 := hx161_5
                                  have hw161_4 := hx161_4
                                  have hw161_3 := hx161_3
                                  have hw161_2 := hx161_2
                                  have hw161_1 := hx161_1
                                  have hw161_0 := hx161_0
                                  obtain rfl : ad146 = ad161 := (by injection e161)
                                  replace hx161_0 := (HB.out.cell (World.block_lt_of_cell? w _ hx161_0)).trans hx161_0
                                  replace hx161_1 := (HB.out.cell (World.block_lt_of_cell? w _ hx161_1)).trans hx161_1
                                  replace hx161_2 := (HB.out.cell (World.block_lt_of_cell? w _ hx161_2)).trans hx161_2
                                  replace hx161_3 := (HB.out.cell (World.block_lt_of_cell? w _ hx161_3)).trans hx161_3
                                  replace hx161_4 := (HB.out.cell (World.block_lt_of_cell? w _ hx161_4)).trans hx161_4
                                  replace hx161_5 := (HB.out.cell (World.block_lt_of_cell? w _ hx161_5)).trans hx161_5
                                  replace hx161_6 := (HB.out.cell (World.block_lt_of_cell? w _ hx161_6)).trans hx161_6
                                  replace hx161_7 := (HB.out.cell (World.block_lt_of_cell? w _ hx161_7)).trans hx161_7
                                  replace p161 := eq_true p161
                                  replace q161 := eq_true q161
                                  refine start_ (n := 12) (S := fun w' => w'.cell? (ad146.add ((x4_1).toNat * 8)) = some (.int .u64 ((rd_T27 l0 x4_1).f0)) ∧ w'.cell? ⟨(ad146.add ((x4_1).toNat * 8)).block, (ad146.add ((x4_1).toNat * 8)).off + 1, none⟩ = some (.int .u64 ((rd_T27 l0 x4_1).f1)) ∧ w'.cell? ⟨(ad146.add ((x4_1).toNat * 8)).block, (ad146.add ((x4_1).toNat * 8)).off + 2, none⟩ = some (.int .u64 ((rd_T27 l0 x4_1).f2)) ∧ w'.cell? ⟨(ad146.add ((x4_1).toNat * 8)).block, (ad146.add ((x4_1).toNat * 8)).off + 3, none⟩ = some (.int .u8 ((rd_T27 l0 x4_1).f3)) ∧ w'.cell? ⟨(ad146.add ((x4_1).toNat * 8)).block, (ad146.add ((x4_1).toNat * 8)).off + 4, none⟩ = some (.string ((rd_T27 l0 x4_1).f4)) ∧ w'.cell? ⟨(ad146.add ((x4_1).toNat * 8)).block, (ad146.add ((x4_1).toNat * 8)).off + 5, none⟩ = some (.string ((rd_T27 l0 x4_1).f5)) ∧ w'.cell? ⟨(ad146.add ((x4_1).toNat * 8)).block, (ad146.add ((x4_1).toNat * 8)).off + 6, none⟩ = some (.int .i64 ((rd_T27 l0 x4_1).f6)) ∧ w'.cell? ⟨(ad146.add ((x4_1).toNat * 8)).block, (ad146.add ((x4_1).toNat * 8)).off + 7, none⟩ = some (.int .i64 ((rd_T27 l0 x4_1).f7))) (ds := []) #[false, false, false, false, false, false, false, false, false, false, false, false] (by kernel_rfl) rfl rfl ⟨((HB.out.cell (World.block_lt_of_cell? w _ hw161_0)).trans hw161_0), ((HB.out.cell (World.block_lt_of_cell? w _ hw161_1)).trans hw161_1), ((HB.out.cell (World.block_lt_of_cell? w _ hw161_2)).trans hw161_2), ((HB.out.cell (World.block_lt_of_cell? w _ hw161_3)).trans hw161_3), ((HB.out.cell (World.block_lt_of_cell? w _ hw161_4)).trans hw161_4), ((HB.out.cell (World.block_lt_of_cell? w _ hw161_5)).trans hw161_5), ((HB.out.cell (World.block_lt_of_cell? w _ hw161_6)).trans hw161_6), ((HB.out.cell (World.block_lt_of_cell? w _ hw161_7)).trans hw161_7)⟩ (fun hHeld => ?_); refine with_tabW merkhetref01_Sort.tab9 merkhetref01_Sort.bits9 (fun HT_ HW_ => ?_)
                                  generalize w27.drew = w28 at HO_3 HO157 HR154 HB HO160 hx161_0 hx161_1 hx161_2 hx161_3 hx161_4 hx161_5 hx161_6 hx161_7 hHeld ⊢
                                  refine pure_ (i := 0) (N := some 38) (v := ?_) (a' := ?_) #[true, false, false, false, false, false, false, false, false, false, false, false] rfl rfl (any_of HT_.out (by kernel_rfl)) (fun _ _ _ h => h) (Or.inl ⟨by rfl, ?_⟩) ?_ ?_
                                  rotate_left
                                  · intro w'
                                    go_simp
                                    with_reducible rfl
                                  rotate_left
                                  · simp only [Act.put, List.setIfInBounds_toArray, List.set_cons_zero, List.set_cons_succ, i64_w, i32_w]
                                    rfl
                                  refine pure_ (i := 1) (N := some 39) (v := ?_) (a' := ?_) #[true, true, false, false, false, false, false, false, false, false, false, false] rfl rfl (any_of HT_.out (by kernel_rfl)) (fun _ _ _ h => h) (Or.inl ⟨by rfl, ?_⟩) ?_ ?_
                                  rotate_left
                                  · intro w'
                                    go_simp
                                    with_reducible rfl
                                  rotate_left
                                  · simp only [Act.put, List.setIfInBounds_toArray, List.set_cons_zero, List.set_cons_succ, i64_w, i32_w]
                                    rfl
                                  refine pure_ (i := 2) (N := some 40) (v := ?_) (a' := ?_) #[true, true, true, false, false, false, false, false, false, false, false, false] rfl rfl (any_of HT_.out (by kernel_rfl)) (fun _ _ _ h => h) (Or.inl ⟨by rfl, ?_⟩) ?_ ?_
                                  rotate_left
                                  · intro w'
                                    go_simp
                                    with_reducible rfl
                                  rotate_left
                                  · simp only [Act.put, List.setIfInBounds_toArray, List.set_cons_zero, List.set_cons_succ, i64_w, i32_w]
                                    rfl
                                  refine pure_ (i := 3) (N := some 41) (v := ?_) (a' := ?_) #[true, true, true, true, false, false, false, false, false, false, false, false] rfl rfl (any_of HT_.out (by kernel_rfl)) (fun _ _ _ h => h) (Or.inl ⟨by rfl, ?_⟩) ?_ ?_
                                  rotate_left
                                  · intro w'
                                    go_simp
                                    with_reducible rfl
                                  rotate_left
                                  · simp only [Act.put, List.setIfInBounds_toArray, List.set_cons_zero, List.set_cons_succ, i64_w, i32_w]
                                    rfl
                                  refine pure_ (i := 4) (N := some 42) (v := ?_) (a' := ?_) #[true, true, true, true, true, false, false, false, false, false, false, false] rfl rfl (any_of HT_.out (by kernel_rfl)) (fun _ _ _ h => h) (Or.inl ⟨by rfl, ?_⟩) ?_ ?_
                                  rotate_left
                                  · intro w'
                                    go_simp
                                    with_reducible rfl
                                  rotate_left
                                  · simp only [Act.put, List.setIfInBounds_toArray, List.set_cons_zero, List.set_cons_succ, i64_w, i32_w]
                                    rfl
                                  refine pure_ (i := 5) (N := some 43) (v := ?_) (a' := ?_) #[true, true, true, true, true, true, false, false, false, false, false, false] rfl rfl (any_of HT_.out (by kernel_rfl)) (fun _ _ _ h => h) (Or.inl ⟨by rfl, ?_⟩) ?_ ?_
                                  rotate_left
                                  · intro w'
                                    go_simp
                                    with_reducible rfl
                                  rotate_left
                                  · simp only [Act.put, List.setIfInBounds_toArray, List.set_cons_zero, List.set_cons_succ, i64_w, i32_w]
                                    rfl
                                  refine pure_ (i := 9) (N := some 47) (v := ?_) (a' := ?_) #[true, true, true, true, true, true, false, false, false, true, false, false] rfl rfl (any_of HT_.out (by kernel_rfl)) (fun _ _ _ h => h) (Or.inl ⟨by rfl, ?_⟩) ?_ ?_
                                  rotate_left
                                  · intro w'
                                    go_simp
                                    with_reducible rfl
                                  rotate_left
                                  · simp only [Act.put, List.setIfInBounds_toArray, List.set_cons_zero, List.set_cons_succ, i64_w, i32_w]
                                    rfl
                                  refine take_ (i := 6) (N := some 44) (v := ?_) (a' := ?_) #[true, true, true, true, true, true, true, false, false, true, false, false] rfl rfl (take_ofW HT_.out HW_.out (by kernel_rfl)) (fun _ _ _ h => h) (Or.inl ⟨by rfl, ?_⟩) hHeld ?_ ?_
                                  rotate_left
                                  · rintro w' ⟨s0, s1, s2, s3, s4, s5, s6, s7⟩
                                    go_simp
                                    with_reducible rfl
                                  rotate_left
                                  · simp only [Act.put, List.setIfInBounds_toArray, List.set_cons_zero, List.set_cons_succ, i64_w, i32_w]
                                    rfl
                                  refine one_ (i := 7) (N := some 45) #[true, true, true, true, true, true, true, true, false, true, false, false] rfl rfl (one_of HT_.out (by kernel_rfl)) (by decide) (fun K hK => ?_)
                                  refine value_ (w1 := ?_) (v := ?_) (by rfl) rfl ?_ ?_
                                  rotate_left 2
                                  · go_simp
                                    constructor
                                    · rfl
                                    · rfl
                                  refine hK.out _ _ ⟨(World.cell?_alloc_lt _ _ _ (World.block_lt_of_cell? _ _ (((HB.out.cell (World.block_lt_of_cell? w _ hw161_0)).trans hw161_0)))).trans (((HB.out.cell (World.block_lt_of_cell? w _ hw161_0)).trans hw161_0)), (World.cell?_alloc_lt _ _ _ (World.block_lt_of_cell? _ _ (((HB.out.cell (World.block_lt_of_cell? w _ hw161_1)).trans hw161_1)))).trans (((HB.out.cell (World.block_lt_of_cell? w _ hw161_1)).trans hw161_1)), (World.cell?_alloc_lt _ _ _ (World.block_lt_of_cell? _ _ (((HB.out.cell (World.block_lt_of_cell? w _ hw161_2)).trans hw161_2)))).trans (((HB.out.cell (World.block_lt_of_cell? w _ hw161_2)).trans hw161_2)), (World.cell?_alloc_lt _ _ _ (World.block_lt_of_cell? _ _ (((HB.out.cell (World.block_lt_of_cell? w _ hw161_3)).trans hw161_3)))).trans (((HB.out.cell (World.block_lt_of_cell? w _ hw161_3)).trans hw161_3)), (World.cell?_alloc_lt _ _ _ (World.block_lt_of_cell? _ _ (((HB.out.cell (World.block_lt_of_cell? w _ hw161_4)).trans hw161_4)))).trans (((HB.out.cell (World.block_lt_of_cell? w _ hw161_4)).trans hw161_4)), (World.cell?_alloc_lt _ _ _ (World.block_lt_of_cell? _ _ (((HB.out.cell (World.block_lt_of_cell? w _ hw161_5)).trans hw161_5)))).trans (((HB.out.cell (World.block_lt_of_cell? w _ hw161_5)).trans hw161_5)), (World.cell?_alloc_lt _ _ _ (World.block_lt_of_cell? _ _ (((HB.out.cell (World.block_lt_of_cell? w _ hw161_6)).trans hw161_6)))).trans (((HB.out.cell (World.block_lt_of_cell? w _ hw161_6)).trans hw161_6)), (World.cell?_alloc_lt _ _ _ (World.block_lt_of_cell? _ _ (((HB.out.cell (World.block_lt_of_cell? w _ hw161_7)).trans hw161_7)))).trans (((HB.out.cell (World.block_lt_of_cell? w _ hw161_7)).trans hw161_7))⟩ (fun hHeld => ?_)
                                  clear hK K
                                  refine norm_ (a' := ?_) ?_ ?_
                                  rotate_left
                                  · show Act.put _ (some 45) _ = _
                                    simp only [Act.put, List.setIfInBounds_toArray, List.set_cons_zero, List.set_cons_succ, i64_w, i32_w]
                                    rfl
                                  refine one_ (i := 8) (N := some 46) #[true, true, true, true, true, true, true, true, true, true, false, false] rfl rfl (one_of HT_.out (by kernel_rfl)) (by decide) (fun K hK => ?_)
                                  refine Kd.R_append_step k27 (w0 := w) w.heap.size (by rfl) (.tmp 40) (.tmp 45) 23 27 (.agg #[(.int .u64 0), (.int .u64 0), (.int .u64 0), (.int .u8 0), (.string ⟨#[]⟩), (.string ⟨#[]⟩), (.int .i64 0), (.int .i64 0)]) 80 rfl Try.underlying23 info27 rfl (by decide) (by omega) (.slice (some ad145) y158.length co5) y158 (⟨(rd_T27 l0 x4_1).f0, (rd_T27 l0 x4_1).f1, (rd_T27 l0 x4_1).f2, (rd_T27 l0 x4_1).f3, (rd_T27 l0 x4_1).f4, (rd_T27 l0 x4_1).f5, (rd_T27 l0 x4_1).f6, (rd_T27 l0 x4_1).f7⟩ : S27) [.int .u64 ((rd_T27 l0 x4_1).f0), .int .u64 ((rd_T27 l0 x4_1).f1), .int .u64 ((rd_T27 l0 x4_1).f2), .int .u8 ((rd_T27 l0 x4_1).f3), .string ((rd_T27 l0 x4_1).f4), .string ((rd_T27 l0 x4_1).f5), .int .i64 ((rd_T27 l0 x4_1).f6), .int .i64 ((rd_T27 l0 x4_1).f7)] (fun k_ => some k_ ≠ (v156 : Value).ownBlock) (fun _ => False) rfl rfl ?aP (fun _ hk => hk.elim) ?aF ?aO ?aB ?aS ?aL ?_
                                  (case aP => exact k27_mkM _ _ _ (⟨(rd_T27 l0 x4_1).f0, (rd_T27 l0 x4_1).f1, (rd_T27 l0 x4_1).f2, (rd_T27 l0 x4_1).f3, (rd_T27 l0 x4_1).f4, (rd_T27 l0 x4_1).f5, (rd_T27 l0 x4_1).f6, (rd_T27 l0 x4_1).f7⟩ : S27))
                                  (case aB => exact (by repeat (first | (with_reducible first | exact HB.out | apply below_alloc | apply pw_below_drewN | apply below_drew1) | exact HB.out)))
                                  (case aF => exact (fun k_ hk => Kd.fresh' (Kd.R_lt (by (with_reducible repeat (first | apply Kd.R_alloc | apply Kd.R_drewN | apply Kd.R_drew)); exact HO157.out)) k_ hk))
                                  (case aO => exact (by (with_reducible repeat (first | apply Kd.R_alloc | apply Kd.R_drewN | apply Kd.R_drew)); exact Kd.R_mono HO160.out (fun _ hk => hk.2)))
                                  (case aS => exact (below_size (by repeat (first | (with_reducible first | exact HB.out | apply below_alloc | apply pw_below_drewN | apply below_drew1) | exact HB.out))))
                                  (case aL => have := LMc20.out; omega)
                                  intro v163 w30 ho hb hg hat
                                  rw [← Ny162.out] at ho
                                  have n0_ := Aside0.mk (Kd.R_after (ok := (fun _ => True)) (by (with_reducible repeat (first | apply Kd.R_alloc | apply Kd.R_drewN | apply Kd.R_drew)); exact Kd.R_mono HO157.out (fun _ hk => ⟨trivial, by first | exact hk | exact fun h_ => hk (h_.trans (own_len _ _ _ _ _))⟩)) hg hat)
                                  have n1_ := Aside0.mk (hb)
                                  have n2_ := Aside0.mk (ho)
                                  clear HO157
                                  clear HB
                                  clear HO160
                                  have HO157 := n0_
                                  have HB := n1_
                                  have HO164 := n2_
                                  clear n0_ n1_ n2_
                                  clear ho hb hg hat
                                  obtain ⟨Ao32, co32, eo32⟩ := Kd.R_slice HO157.out
                                  (first | subst eo32 | (injection eo32 with f1_ f2_ f3_; have f4_ := f1_.symm; have f5_ := f3_.symm; clear f1_ f2_ f3_; subst f4_; subst f5_))
                                  refine hK.out _ _ ⟨((HB.out.cell (World.block_lt_of_cell? w _ hw161_0)).trans hw161_0), ((HB.out.cell (World.block_lt_of_cell? w _ hw161_1)).trans hw161_1), ((HB.out.cell (World.block_lt_of_cell? w _ hw161_2)).trans hw161_2), ((HB.out.cell (World.block_lt_of_cell? w _ hw161_3)).trans hw161_3), ((HB.out.cell (World.block_lt_of_cell? w _ hw161_4)).trans hw161_4), ((HB.out.cell (World.block_lt_of_cell? w _ hw161_5)).trans hw161_5), ((HB.out.cell (World.block_lt_of_cell? w _ hw161_6)).trans hw161_6), ((HB.out.cell (World.block_lt_of_cell? w _ hw161_7)).trans hw161_7)⟩ (fun hHeld => ?_)
                                  clear hK K
                                  refine norm_ (a' := ?_) ?_ ?_
                                  rotate_left
                                  · show Act.put _ (some 46) _ = _
                                    simp only [Act.put, List.setIfInBounds_toArray, List.set_cons_zero, List.set_cons_succ, i64_w, i32_w]
                                    rfl
                                  refine one_ (i := 10) (N := some 48) #[true, true, true, true, true, true, true, true, true, true, true, false] rfl rfl (one_of HT_.out (by kernel_rfl)) (by decide) (fun K hK => ?_)
                                  refine Kd.R_append_rows_step k27 (w0 := w) w.heap.size (by rfl) (.tmp 46) (.tmp 47) 23 27 (.agg #[(.int .u64 0), (.int .u64 0), (.int .u64 0), (.int .u8 0), (.string ⟨#[]⟩), (.string ⟨#[]⟩), (.int .i64 0), (.int .i64 0)]) 80 rfl Try.underlying23 info27 rfl (by decide) (by omega) v163 y162 y155 _ _ _ (fun k_ => some k_ ≠ (.slice Ao32 y155.length co32 : Value).ownBlock) (fun _ => False) rfl rfl ?aO ?aR (fun _ _ h => h) (fun _ h => h.elim) ?aF ?aB ?aS ?aL ?_
                                  (case aR => repeat (first | exact (Kd.R_reads' HO157.out).2.2 | (with_reducible refine Kd.C_alloc ?_ _) | (with_reducible refine Kd.C_drewN ?_ _) | (with_reducible refine Kd.C_drew ?_)))
                                  (case aB => exact (by repeat (first | (with_reducible first | exact HB.out | apply below_alloc | apply pw_below_drewN | apply below_drew1) | exact HB.out)))
                                  (case aF => exact (fun k_ hk => Kd.fresh' (Kd.R_lt (by (with_reducible repeat (first | apply Kd.R_alloc | apply Kd.R_drewN | apply Kd.R_drew)); exact HO157.out)) k_ hk))
                                  (case aO => exact (by (with_reducible repeat (first | apply Kd.R_alloc | apply Kd.R_drewN | apply Kd.R_drew)); exact HO164.out))
                                  (case aS => exact (below_size (by repeat (first | (with_reducible first | exact HB.out | apply below_alloc | apply pw_below_drewN | apply below_drew1) | exact HB.out))))
                                  (case aL => have := LMc21.out; omega)
                                  intro v166 w31 ho hb hg hat
                                  rw [← Ny165.out] at ho
                                  have n0_ := Aside0.mk (Kd.R_after (ok := (fun _ => True)) (by (with_reducible repeat (first | apply Kd.R_alloc | apply Kd.R_drewN | apply Kd.R_drew)); exact HO157.out) hg hat)
                                  have n1_ := Aside0.mk (hb)
                                  have n2_ := Aside0.mk (ho)
                                  clear HO157
                                  clear HB
                                  clear HO164
                                  have HO157 := n0_
                                  have HB := n1_
                                  have HO167 := n2_
                                  clear n0_ n1_ n2_
                                  clear ho hb hg hat
                                  refine hK.out _ _ ⟨((HB.out.cell (World.block_lt_of_cell? w _ hw161_0)).trans hw161_0), ((HB.out.cell (World.block_lt_of_cell? w _ hw161_1)).trans hw161_1), ((HB.out.cell (World.block_lt_of_cell? w _ hw161_2)).trans hw161_2), ((HB.out.cell (World.block_lt_of_cell? w _ hw161_3)).trans hw161_3), ((HB.out.cell (World.block_lt_of_cell? w _ hw161_4)).trans hw161_4), ((HB.out.cell (World.block_lt_of_cell? w _ hw161_5)).trans hw161_5), ((HB.out.cell (World.block_lt_of_cell? w _ hw161_6)).trans hw161_6), ((HB.out.cell (World.block_lt_of_cell? w _ hw161_7)).trans hw161_7)⟩ (fun hHeld => ?_)
                                  clear hK K
                                  refine norm_ (a' := ?_) ?_ ?_
                                  rotate_left
                                  · show Act.put _ (some 48) _ = _
                                    simp only [Act.put, List.setIfInBounds_toArray, List.set_cons_zero, List.set_cons_succ, i64_w, i32_w]
                                    rfl
                                  refine pure_ (i := 11) (N := some 3) (v := ?_) (a' := ?_) #[true, true, true, true, true, true, true, true, true, true, true, true] rfl rfl (any_of HT_.out (by kernel_rfl)) (fun _ _ _ h => h) (Or.inl ⟨by rfl, ?_⟩) ?_ ?_
                                  rotate_left
                                  · intro w'
                                    go_simp
                                    with_reducible rfl
                                  rotate_left
                                  · simp only [Act.put, List.setIfInBounds_toArray, List.set_cons_zero, List.set_cons_succ, i64_w, i32_w]
                                    rfl
                                  refine done_ (done_of HT_.out (by kernel_rfl)) ?_
                                  try go_wp2
                                  go_roundg k2
                                  case measure => have := HK1.out; have := HK2.out; omega
                                  case rel => exact ⟨(y165), (wrap64 (x4_1 + 1)), (by first | rfl | (simp; done) | (simp [*]; done)), H', ⟨by have := HK1.out; have := HK2.out; omega⟩, ⟨by (with_reducible repeat (first | apply Kd.R_alloc | apply Kd.R_drewN | apply Kd.R_drew)); exact Kd.R_mono HO167.out (fun _ hk => trivial)⟩, ⟨by repeat (first | (with_reducible first | exact HB.out | apply below_alloc | apply pw_below_drewN | apply below_drew1) | exact HB.out)⟩⟩
                                · rw [if_neg c21] at H
                                  exact absurd H (by simp)
                              · rw [if_neg c20] at H
                                exact absurd H (by simp)
                            · rw [if_neg c18] at H
                              exact absurd H (by simp)
                          · rw [if_neg c17] at H
                            exact absurd H (by simp)
                        · rw [if_neg c16] at H
                          exact absurd H (by simp)
                    · rw [if_neg c11] at H
                      exact absurd H (by simp)
                  · rw [if_neg c10] at H
                    exact absurd H (by simp)
                · rw [if_neg c9] at H
                  exact absurd H (by simp)
              · rw [if_neg c8] at H
                exact absurd H (by simp)
            · rw [if_neg c6] at H
              have c6b0 : decide (0 < x5_2) = false := decide_eq_false c6
              clear c6
              obtain ⟨y168, hy168⟩ : ∃ y_ : List (S27), y_ = (([] : List (S27))) := ⟨_, rfl⟩
              replace H : (if 0 ≤ x5_2 then (if x5_2 ≤ (x3_1.length : Int) then ((some (x3_1.drop (x5_2 : Int).toNat : List (S27))).bind fun y171 => (if y168.length + y171.length < 1759218604441 then ((some (y168 ++ y171 : List (S27))).bind fun y175 => ((some (x3_1.take (x5_2 : Int).toNat : List (S27))).bind fun y178 => (if 0 ≤ x4_1 then (if x4_1 < (l0.length : Int) then (if y178.length < 1759218604441 then ((some (y178 ++ [(⟨(rd_T27 l0 x4_1).f0, (rd_T27 l0 x4_1).f1, (rd_T27 l0 x4_1).f2, (rd_T27 l0 x4_1).f3, (rd_T27 l0 x4_1).f4, (rd_T27 l0 x4_1).f5, (rd_T27 l0 x4_1).f6, (rd_T27 l0 x4_1).f7⟩ : S27)] : List (S27))).bind fun y182 => (if y182.length + y175.length < 1759218604441 then (merkhetref01_Sort.l0 k2 l0 (y182 ++ y175) (wrap64 (x4_1 + 1))) else (none))) else (none)) else (none)) else (none)))) else (none))) else (none)) else (none)) = some r := by first | (rw [hy168]; with_reducible exact H) | (have H2_ := (Option.bind_some _ _).symm.trans H; rw [hy168]; with_reducible exact H2_) | (have H2_ := (Option.bind_some _ _).symm.trans H; with_reducible exact H2_) | with_reducible exact H | (rw [hy168]; exact H) | exact H
              have Ny168 := Aside0.mk hy168
              clear hy168
              by_cases c33 : 0 ≤ x5_2
              · rw [if_pos c33] at H
                have c33b0 := eq_true c33
                have c33b1 : decide (0 ≤ x5_2) = true := decide_eq_true c33
                clear c33
                by_cases c34 : x5_2 ≤ (x3_1.length : Int)
                · rw [if_pos c34] at H
                  have c34b0 := eq_true c34
                  have c34b1 : decide (x5_2 ≤ (x3_1.length : Int)) = true := decide_eq_true c34
                  clear c34
                  obtain ⟨y171, hy171⟩ : ∃ y_ : List (S27), y_ = (x3_1.drop (x5_2 : Int).toNat) := ⟨_, rfl⟩
                  replace H : (if y168.length + y171.length < 1759218604441 then ((some (y168 ++ y171 : List (S27))).bind fun y175 => ((some (x3_1.take (x5_2 : Int).toNat : List (S27))).bind fun y178 => (if 0 ≤ x4_1 then (if x4_1 < (l0.length : Int) then (if y178.length < 1759218604441 then ((some (y178 ++ [(⟨(rd_T27 l0 x4_1).f0, (rd_T27 l0 x4_1).f1, (rd_T27 l0 x4_1).f2, (rd_T27 l0 x4_1).f3, (rd_T27 l0 x4_1).f4, (rd_T27 l0 x4_1).f5, (rd_T27 l0 x4_1).f6, (rd_T27 l0 x4_1).f7⟩ : S27)] : List (S27))).bind fun y182 => (if y182.length + y175.length < 1759218604441 then (merkhetref01_Sort.l0 k2 l0 (y182 ++ y175) (wrap64 (x4_1 + 1))) else (none))) else (none)) else (none)) else (none)))) else (none)) = some r := by first | (rw [hy171]; with_reducible exact H) | (have H2_ := (Option.bind_some _ _).symm.trans H; rw [hy171]; with_reducible exact H2_) | (have H2_ := (Option.bind_some _ _).symm.trans H; with_reducible exact H2_) | with_reducible exact H | (rw [hy171]; exact H) | exact H
                  have Ny171 := Aside0.mk hy171
                  clear hy171
                  by_cases c35 : y168.length + y171.length < 1759218604441
                  · rw [if_pos c35] at H
                    have LMc35 := Aside0.mk c35
                    clear c35
                    obtain ⟨y175, hy175⟩ : ∃ y_ : List (S27), y_ = (y168 ++ y171) := ⟨_, rfl⟩
                    replace H : ((some (x3_1.take (x5_2 : Int).toNat : List (S27))).bind fun y178 => (if 0 ≤ x4_1 then (if x4_1 < (l0.length : Int) then (if y178.length < 1759218604441 then ((some (y178 ++ [(⟨(rd_T27 l0 x4_1).f0, (rd_T27 l0 x4_1).f1, (rd_T27 l0 x4_1).f2, (rd_T27 l0 x4_1).f3, (rd_T27 l0 x4_1).f4, (rd_T27 l0 x4_1).f5, (rd_T27 l0 x4_1).f6, (rd_T27 l0 x4_1).f7⟩ : S27)] : List (S27))).bind fun y182 => (if y182.length + y175.length < 1759218604441 then (merkhetref01_Sort.l0 k2 l0 (y182 ++ y175) (wrap64 (x4_1 + 1))) else (none))) else (none)) else (none)) else (none))) = some r := by first | (rw [hy175]; with_reducible exact H) | (have H2_ := (Option.bind_some _ _).symm.trans H; rw [hy175]; with_reducible exact H2_) | (have H2_ := (Option.bind_some _ _).symm.trans H; with_reducible exact H2_) | with_reducible exact H | (rw [hy175]; exact H) | exact H
                    have Ny175 := Aside0.mk hy175
                    clear hy175
                    have c36b0 := eq_true (of_decide_eq_true (by first | (with_reducible assumption) | assumption) : x5_2 ≤ (x3_1.length : Int))
                    obtain ⟨y178, hy178⟩ : ∃ y_ : List (S27), y_ = (x3_1.take (x5_2 : Int).toNat) := ⟨_, rfl⟩
                    replace H : (if 0 ≤ x4_1 then (if x4_1 < (l0.length : Int) then (if y178.length < 1759218604441 then ((some (y178 ++ [(⟨(rd_T27 l0 x4_1).f0, (rd_T27 l0 x4_1).f1, (rd_T27 l0 x4_1).f2, (rd_T27 l0 x4_1).f3, (rd_T27 l0 x4_1).f4, (rd_T27 l0 x4_1).f5, (rd_T27 l0 x4_1).f6, (rd_T27 l0 x4_1).f7⟩ : S27)] : List (S27))).bind fun y182 => (if y182.length + y175.length < 1759218604441 then (merkhetref01_Sort.l0 k2 l0 (y182 ++ y175) (wrap64 (x4_1 + 1))) else (none))) else (none)) else (none)) else (none)) = some r := by first | (rw [hy178]; with_reducible exact H) | (have H2_ := (Option.bind_some _ _).symm.trans H; rw [hy178]; with_reducible exact H2_) | (have H2_ := (Option.bind_some _ _).symm.trans H; with_reducible exact H2_) | with_reducible exact H | (rw [hy178]; exact H) | exact H
                    have Ny178 := Aside0.mk hy178
                    clear hy178
                    by_cases c37 : 0 ≤ x4_1
                    · rw [if_pos c37] at H
                      have c37b0 : decide (0 ≤ x4_1) = true := decide_eq_true c37
                      clear c37
                      by_cases c38 : x4_1 < (l0.length : Int)
                      · rw [if_pos c38] at H
                        have c38b0 : decide (x4_1 < (l0.length : Int)) = true := decide_eq_true c38
                        clear c38
                        by_cases c39 : y178.length < 1759218604441
                        · rw [if_pos c39] at H
                          have LMc39 := Aside0.mk c39
                          clear c39
                          obtain ⟨y182, hy182⟩ : ∃ y_ : List (S27), y_ = (y178 ++ [(⟨(rd_T27 l0 x4_1).f0, (rd_T27 l0 x4_1).f1, (rd_T27 l0 x4_1).f2, (rd_T27 l0 x4_1).f3, (rd_T27 l0 x4_1).f4, (rd_T27 l0 x4_1).f5, (rd_T27 l0 x4_1).f6, (rd_T27 l0 x4_1).f7⟩ : S27)]) := ⟨_, rfl⟩
                          replace H : (if y182.length + y175.length < 1759218604441 then (merkhetref01_Sort.l0 k2 l0 (y182 ++ y175) (wrap64 (x4_1 + 1))) else (none)) = some r := by first | (rw [hy182]; with_reducible exact H) | (have H2_ := (Option.bind_some _ _).symm.trans H; rw [hy182]; with_reducible exact H2_) | (have H2_ := (Option.bind_some _ _).symm.trans H; with_reducible exact H2_) | with_reducible exact H | (rw [hy182]; exact H) | exact H
                          have Ny182 := Aside0.mk hy182
                          clear hy182
                          by_cases c40 : y182.length + y175.length < 1759218604441
                          · rw [if_pos c40] at H
                            have LMc40 := Aside0.mk c40
                            clear c40
                            obtain ⟨y185, hy185⟩ : ∃ y_ : List (S27), y_ = (y182 ++ y175) := ⟨_, rfl⟩
                            replace H : (merkhetref01_Sort.l0 k2 l0 y185 (wrap64 (x4_1 + 1))) = some r := by first | (rw [hy185]; with_reducible exact H) | (have H2_ := (Option.bind_some _ _).symm.trans H; rw [hy185]; with_reducible exact H2_) | (have H2_ := (Option.bind_some _ _).symm.trans H; with_reducible exact H2_) | with_reducible exact H | (rw [hy185]; exact H) | exact H
                            have Ny185 := Aside0.mk hy185
                            clear hy185
                            have H' := Aside0.mk H
                            clear H
                            try go_wp2
                            have n0_ := Aside0.mk (Kd.R_drew HO_3.out)
                            have n1_ := Aside0.mk (below_drew1 HB.out)
                            clear HO_3
                            clear HB
                            have HO_3 := n0_
                            have HB := n1_
                            clear n0_ n1_
                            refine start_ (n := 15) (S := fun w' => True) (ds := []) #[false, false, false, false, false, false, false, false, false, false, false, false, false, false, false] (by kernel_rfl) rfl rfl trivial (fun hHeld => ?_); refine with_tabW merkhetref01_Sort.tab6 merkhetref01_Sort.bits6 (fun HT_ HW_ => ?_)
                            generalize wr.drew = w41 at HO_3 HB hHeld ⊢
                            refine pure_ (i := 0) (N := some 16) (v := ?_) (a' := ?_) #[true, false, false, false, false, false, false, false, false, false, false, false, false, false, false] rfl rfl (any_of HT_.out (by kernel_rfl)) (fun _ _ _ h => h) (Or.inl ⟨by rfl, ?_⟩) ?_ ?_
                            rotate_left
                            · intro w'
                              go_simp
                              with_reducible rfl
                            rotate_left
                            · simp only [Act.put, List.setIfInBounds_toArray, List.set_cons_zero, List.set_cons_succ, i64_w, i32_w]
                              rfl
                            refine pure_ (i := 1) (N := some 17) (v := ?_) (a' := ?_) #[true, true, false, false, false, false, false, false, false, false, false, false, false, false, false] rfl rfl (any_of HT_.out (by kernel_rfl)) (fun _ _ _ h => h) (Or.inl ⟨by rfl, ?_⟩) ?_ ?_
                            rotate_left
                            · intro w'
                              go_simp
                              with_reducible rfl
                            rotate_left
                            · simp only [Act.put, List.setIfInBounds_toArray, List.set_cons_zero, List.set_cons_succ, i64_w, i32_w]
                              rfl
                            refine pure_ (i := 2) (N := some 18) (v := ?_) (a' := ?_) #[true, true, true, false, false, false, false, false, false, false, false, false, false, false, false] rfl rfl (any_of HT_.out (by kernel_rfl)) (fun _ _ _ h => h) (Or.inl ⟨by rfl, ?_⟩) ?_ ?_
                            rotate_left
                            · intro w'
                              go_simp
                              with_reducible rfl
                            rotate_left
                            · simp only [Act.put, List.setIfInBounds_toArray, List.set_cons_zero, List.set_cons_succ, i64_w, i32_w]
                              rfl
                            refine pure_ (i := 3) (N := some 19) (v := undef) (a' := ?_) #[true, true, true, true, false, false, false, false, false, false, false, false, false, false, false] rfl rfl (any_of HT_.out (by kernel_rfl)) (fun _ _ _ h => h) (Or.inr ⟨by rfl, rfl⟩) ?_ ?_
                            rotate_left
                            · simp only [Act.put, List.setIfInBounds_toArray, List.set_cons_zero, List.set_cons_succ, i64_w, i32_w]
                              rfl
                            refine pure_ (i := 4) (N := some 20) (v := undef) (a' := ?_) #[true, true, true, true, true, false, false, false, false, false, false, false, false, false, false] rfl rfl (any_of HT_.out (by kernel_rfl)) (fun _ _ _ h => h) (Or.inr ⟨by rfl, rfl⟩) ?_ ?_
                            rotate_left
                            · simp only [Act.put, List.setIfInBounds_toArray, List.set_cons_zero, List.set_cons_succ, i64_w, i32_w]
                              rfl
                            refine pure_ (i := 5) (N := some 21) (v := undef) (a' := ?_) #[true, true, true, true, true, true, false, false, false, false, false, false, false, false, false] rfl rfl (any_of HT_.out (by kernel_rfl)) (fun _ _ _ h => h) (Or.inr ⟨by rfl, rfl⟩) ?_ ?_
                            rotate_left
                            · simp only [Act.put, List.setIfInBounds_toArray, List.set_cons_zero, List.set_cons_succ, i64_w, i32_w]
                              rfl
                            refine pure_ (i := 6) (N := some 22) (v := undef) (a' := ?_) #[true, true, true, true, true, true, true, false, false, false, false, false, false, false, false] rfl rfl (any_of HT_.out (by kernel_rfl)) (fun _ _ _ h => h) (Or.inr ⟨by rfl, rfl⟩) ?_ ?_
                            rotate_left
                            · simp only [Act.put, List.setIfInBounds_toArray, List.set_cons_zero, List.set_cons_succ, i64_w, i32_w]
                              rfl
                            refine pure_ (i := 7) (N := some 23) (v := undef) (a' := ?_) #[true, true, true, true, true, true, true, true, false, false, false, false, false, false, false] rfl rfl (any_of HT_.out (by kernel_rfl)) (fun _ _ _ h => h) (Or.inr ⟨by rfl, rfl⟩) ?_ ?_
                            rotate_left
                            · simp only [Act.put, List.setIfInBounds_toArray, List.set_cons_zero, List.set_cons_succ, i64_w, i32_w]
                              rfl
                            refine pure_ (i := 8) (N := some 24) (v := undef) (a' := ?_) #[true, true, true, true, true, true, true, true, true, false, false, false, false, false, false] rfl rfl (any_of HT_.out (by kernel_rfl)) (fun _ _ _ h => h) (Or.inr ⟨by rfl, rfl⟩) ?_ ?_
                            rotate_left
                            · simp only [Act.put, List.setIfInBounds_toArray, List.set_cons_zero, List.set_cons_succ, i64_w, i32_w]
                              rfl
                            refine pure_ (i := 9) (N := some 25) (v := undef) (a' := ?_) #[true, true, true, true, true, true, true, true, true, true, false, false, false, false, false] rfl rfl (any_of HT_.out (by kernel_rfl)) (fun _ _ _ h => h) (Or.inr ⟨by rfl, rfl⟩) ?_ ?_
                            rotate_left
                            · simp only [Act.put, List.setIfInBounds_toArray, List.set_cons_zero, List.set_cons_succ, i64_w, i32_w]
                              rfl
                            refine pure_ (i := 10) (N := some 26) (v := undef) (a' := ?_) #[true, true, true, true, true, true, true, true, true, true, true, false, false, false, false] rfl rfl (any_of HT_.out (by kernel_rfl)) (fun _ _ _ h => h) (Or.inr ⟨by rfl, rfl⟩) ?_ ?_
                            rotate_left
                            · simp only [Act.put, List.setIfInBounds_toArray, List.set_cons_zero, List.set_cons_succ, i64_w, i32_w]
                              rfl
                            refine pure_ (i := 11) (N := some 27) (v := undef) (a' := ?_) #[true, true, true, true, true, true, true, true, true, true, true, true, false, false, false] rfl rfl (any_of HT_.out (by kernel_rfl)) (fun _ _ _ h => h) (Or.inr ⟨by rfl, rfl⟩) ?_ ?_
                            rotate_left
                            · simp only [Act.put, List.setIfInBounds_toArray, List.set_cons_zero, List.set_cons_succ, i64_w, i32_w]
                              rfl
                            refine pure_ (i := 12) (N := some 28) (v := undef) (a' := ?_) #[true, true, true, true, true, true, true, true, true, true, true, true, true, false, false] rfl rfl (any_of HT_.out (by kernel_rfl)) (fun _ _ _ h => h) (Or.inr ⟨by rfl, rfl⟩) ?_ ?_
                            rotate_left
                            · simp only [Act.put, List.setIfInBounds_toArray, List.set_cons_zero, List.set_cons_succ, i64_w, i32_w]
                              rfl
                            refine pure_ (i := 13) (N := some 29) (v := undef) (a' := ?_) #[true, true, true, true, true, true, true, true, true, true, true, true, true, true, false] rfl rfl (any_of HT_.out (by kernel_rfl)) (fun _ _ _ h => h) (Or.inr ⟨by rfl, rfl⟩) ?_ ?_
                            rotate_left
                            · simp only [Act.put, List.setIfInBounds_toArray, List.set_cons_zero, List.set_cons_succ, i64_w, i32_w]
                              rfl
                            refine pure_ (i := 14) (N := some 30) (v := ?_) (a' := ?_) #[true, true, true, true, true, true, true, true, true, true, true, true, true, true, true] rfl rfl (any_of HT_.out (by kernel_rfl)) (fun _ _ _ h => h) (Or.inl ⟨by rfl, ?_⟩) ?_ ?_
                            rotate_left
                            · intro w'
                              go_simp
                              with_reducible rfl
                            rotate_left
                            · simp only [Act.put, List.setIfInBounds_toArray, List.set_cons_zero, List.set_cons_succ, i64_w, i32_w]
                              rfl
                            refine done_ (done_of HT_.out (by kernel_rfl)) ?_
                            try go_wp2_with (first | ((with_reducible refine gate_dst (N := 33) rfl ?_); refine Kd.R_lit k27 _ 27 ?hg (N := 33) ?hd (xs := ([] : List (S27))) (inner := []) (ok := fun _ => True) (okp := fun _ => True) ?hr ?hp (fun _ hk => hk) trivial (Below.refl _ _) (Nat.le_refl _) (by simp) ?_; (case hd => rfl); (case hg => rfl); (case hr => first | (go_simp; done) | (go_simp; rfl)); (case hp => exact (Reps.none _ _)); intro v169 w42 ho43 hb hg_ hnew_; clear hg_ hnew_; (first | rw [← Ny168.out] at ho43 | (simp only [Int.reduceToNat] at ho43; rw [← Ny168.out] at ho43)); have n0_ := Aside0.mk (Kd.R_elder' (by (with_reducible repeat (first | apply Kd.R_alloc | apply Kd.R_drewN | apply Kd.R_drew)); exact HO_3.out) (Kd.R_base ho43) hb); have n1_ := Aside0.mk (Kd.R_lower (Kd.R_new' ho43 (Kd.R_lt (by (with_reducible repeat (first | apply Kd.R_alloc | apply Kd.R_drewN | apply Kd.R_drew)); exact HO_3.out))) (below_size (by repeat (first | (with_reducible first | exact HB.out | apply below_alloc | apply pw_below_drewN | apply below_drew1) | exact HB.out)))); have n2_ := Aside0.mk (below_step (by repeat (first | (with_reducible first | exact HB.out | apply below_alloc | apply pw_below_drewN | apply below_drew1) | exact HB.out)) hb); clear HO_3; clear HB; have HO_3 := n0_; have HO170 := n1_; have HB := n2_; clear n0_ n1_ n2_; clear hb ho43; have q44 : (x5_2 : Int) ≤ ((x3_1.length : Int) : Int) := of_decide_eq_true (by first | (with_reducible assumption) | assumption); obtain ⟨i044, hi044, _, hsz44, _⟩ := info_parts info27; have hroom44 : x3_1.length ≤ co5 := (Kd.R_reads' HO_3.out).2.1; have hC44 : Kd.C k27 _ Ao5 x3_1.length x3_1 := (Kd.R_reads' HO_3.out).2.2; have q044 : (0 : Int) ≤ (x5_2 : Int) := of_decide_eq_true (by first | (with_reducible assumption) | assumption); have hcut44 := cut_from (P := Try.prog) 23 27 .i64 Try.underlying23 hi044 8 hsz44 Ao5 x3_1.length co5 x5_2 q044 q44; have hr44 := Kd.C_drop (m := (x5_2 : Int).toNat) (c := co5) hC44 (by omega) hroom44; obtain ⟨A44, hA44⟩ : ∃ A1, A1 = (if co5 = (x5_2 : Int).toNat then Ao5 else (Ao5 : Option Addr).map (·.add ((x5_2 : Int).toNat * 8))) := ⟨_, rfl⟩; obtain ⟨c44, hc44⟩ : ∃ c1, c1 = co5 - (x5_2 : Int).toNat := ⟨_, rfl⟩; have hy44 : y171.length = x3_1.length - (x5_2 : Int).toNat := (by rw [Ny171.out, List.length_drop] <;> omega); rw [show (x3_1).drop (x5_2 : Int).toNat = y171 from Ny171.out.symm] at hr44; replace hr44 : Kd.C k27 _ A44 y171.length y171 := (by rw [hA44]; exact hr44); rw [← hy44, ← hA44, ← hc44] at hcut44; have HR174 := Aside0.mk hr44; have HC174 := Aside0.mk (show y171.length ≤ c44 from by rw [hy44, hc44]; exact Nat.sub_le_sub_right hroom44 _); clear hr44 hC44 hroom44 hi044 hsz44 hc44; have KY44 := Aside0.mk hy44; have KA44 := Aside0.mk hA44; clear hy44 hA44; have KL44 := Aside0.mk (show (x5_2 : Int).toNat ≤ x3_1.length from by omega); replace q44 := eq_true q44) | ((with_reducible refine gate_builtin (b := .append) (xs := #[.tmp 33, .tmp 36]) rfl ?_); at_builtin; refine Kd.R_append_rows k27 (w0 := w) w.heap.size rfl (.tmp 33) (.tmp 36) 23 27 (.agg #[(.int .u64 0), (.int .u64 0), (.int .u64 0), (.int .u8 0), (.string ⟨#[]⟩), (.string ⟨#[]⟩), (.int .i64 0), (.int .i64 0)]) 80 rfl Try.underlying23 info27 rfl (by decide) (by omega) v169 y168 y171 _ _ _ (fun k_ => some k_ ≠ (.slice Ao5 x3_1.length co5 : Value).ownBlock) (fun _ => False) rfl rfl ?aO ?aR (fun _ _ h => h) (fun _ h => h.elim) ?aF ?aB ?aS ?aL ?_; (case aR => repeat (first | exact (by repeat (first | (with_reducible exact HR174.out) | (with_reducible refine Kd.C_alloc ?_ _) | (with_reducible refine Kd.C_drewN ?_ _) | (with_reducible refine Kd.C_drew ?_) | exact HR174.out)) | (with_reducible refine Kd.C_alloc ?_ _) | (with_reducible refine Kd.C_drewN ?_ _) | (with_reducible refine Kd.C_drew ?_))); (case aB => exact (by repeat (first | (with_reducible first | exact HB.out | apply below_alloc | apply pw_below_drewN | apply below_drew1) | exact HB.out))); (case aF => exact (fun k_ hk => Kd.fresh' (Kd.R_lt (by (with_reducible repeat (first | apply Kd.R_alloc | apply Kd.R_drewN | apply Kd.R_drew)); exact HO_3.out)) k_ hk)); (case aO => exact (by (with_reducible repeat (first | apply Kd.R_alloc | apply Kd.R_drewN | apply Kd.R_drew)); exact Kd.R_mono HO170.out (fun _ hk => hk.2))); (case aS => exact (below_size (by repeat (first | (with_reducible first | exact HB.out | apply below_alloc | apply pw_below_drewN | apply below_drew1) | exact HB.out)))); (case aL => have := LMc35.out; omega); intro v176 w45 ho hb hg hat; rw [← Ny175.out] at ho; have n0_ := Aside0.mk (Kd.R_after (ok := (fun _ => True)) (by (with_reducible repeat (first | apply Kd.R_alloc | apply Kd.R_drewN | apply Kd.R_drew)); exact HO_3.out) hg hat); have n1_ := Aside0.mk (hb); have n2_ := Aside0.mk ((show Kd.C k27 w45 A44 y171.length y171 from by rw [Ny171.out, KA44.out]; exact Kd.C_drop (m := (x5_2 : Int).toNat) (c := co5) ((Kd.R_reads' (Kd.R_after (ok := (fun _ => True)) (by (with_reducible repeat (first | apply Kd.R_alloc | apply Kd.R_drewN | apply Kd.R_drew)); exact HO_3.out) hg hat)).2.2) KL44.out ((Kd.R_reads' (Kd.R_after (ok := (fun _ => True)) (by (with_reducible repeat (first | apply Kd.R_alloc | apply Kd.R_drewN | apply Kd.R_drew)); exact HO_3.out) hg hat)).2.1))); have n3_ := Aside0.mk (ho); clear HO_3; clear HB; clear HR174; clear HO170; have HO_3 := n0_; have HB := n1_; have HR174 := n2_; have HO177 := n3_; clear n0_ n1_ n2_ n3_; clear ho hb hg hat))
                            have n0_ := Aside0.mk (Kd.R_drew HO_3.out)
                            have n1_ := Aside0.mk (Kd.R_drew HO177.out)
                            have n2_ := Aside0.mk (Kd.C_drew HR174.out)
                            have n3_ := Aside0.mk (below_drew1 HB.out)
                            clear HO_3
                            clear HO177
                            clear HR174
                            clear HB
                            have HO_3 := n0_
                            have HO177 := n1_
                            have HR174 := n2_
                            have HB := n3_
                            clear n0_ n1_ n2_ n3_
                            have q47 : (x5_2 : Int) ≤ ((x3_1.length : Int) : Int) := of_decide_eq_true (by first | (with_reducible assumption) | assumption)
                            obtain ⟨i047, hi047, _, hsz47, _⟩ := info_parts info27
                            have hcut47 := cut_to (P := Try.prog) 23 27 .i64 Try.underlying23 hi047 Ao5 x3_1.length co5 x5_2 (of_decide_eq_true (by first | (with_reducible assumption) | assumption)) q47 (Kd.R_reads' HO_3.out).2.1
                            have hr47 := Kd.R_take (m := (x5_2 : Int).toNat) HO_3.out (by omega)
                            have hy47 : y178.length = (x5_2 : Int).toNat := (by rw [Ny178.out, List.length_take]; omega)
                            rw [← Ny178.out] at hr47
                            rw [← hy47] at hr47 hcut47
                            clear hy47 hi047 hsz47 HO_3
                            have HO180 := Aside0.mk hr47
                            clear hr47
                            replace q47 := eq_true q47
                            have p181 : 0 ≤ (x4_1 : Int) := of_decide_eq_true (by first | (with_reducible assumption) | assumption)
                            have q181 : x4_1 < (l0.length : Int) := of_decide_eq_true (by first | (with_reducible assumption) | assumption)
                            obtain ⟨ad181, e181, hx181_0, hx181_1, hx181_2, hx181_3, hx181_4, hx181_5, hx181_6, hx181_7⟩ := at_T27 HR0.out x4_1 p181 q181
                            have hw181_7 := hx181_7
                            have hw181_6 := hx181_6
                            have hw181_5 := hx181_5
                            have hw181_4 := hx181_4
                            have hw181_3 := hx181_3
                            have hw181_2 := hx181_2
                            have hw181_1 := hx181_1
                            have hw181_0 := hx181_0
                            cases e181
                            replace hx181_0 := (HB.out.cell (World.block_lt_of_cell? w _ hx181_0)).trans hx181_0
                            replace hx181_1 := (HB.out.cell (World.block_lt_of_cell? w _ hx181_1)).trans hx181_1
                            replace hx181_2 := (HB.out.cell (World.block_lt_of_cell? w _ hx181_2)).trans hx181_2
                            replace hx181_3 := (HB.out.cell (World.block_lt_of_cell? w _ hx181_3)).trans hx181_3
                            replace hx181_4 := (HB.out.cell (World.block_lt_of_cell? w _ hx181_4)).trans hx181_4
                            replace hx181_5 := (HB.out.cell (World.block_lt_of_cell? w _ hx181_5)).trans hx181_5
                            replace hx181_6 := (HB.out.cell (World.block_lt_of_cell? w _ hx181_6)).trans hx181_6
                            replace hx181_7 := (HB.out.cell (World.block_lt_of_cell? w _ hx181_7)).trans hx181_7
                            replace p181 := eq_true p181
                            replace q181 := eq_true q181
                            refine start_ (n := 12) (S := fun w' => w'.cell? (ad181.add ((x4_1).toNat * 8)) = some (.int .u64 ((rd_T27 l0 x4_1).f0)) ∧ w'.cell? ⟨(ad181.add ((x4_1).toNat * 8)).block, (ad181.add ((x4_1).toNat * 8)).off + 1, none⟩ = some (.int .u64 ((rd_T27 l0 x4_1).f1)) ∧ w'.cell? ⟨(ad181.add ((x4_1).toNat * 8)).block, (ad181.add ((x4_1).toNat * 8)).off + 2, none⟩ = some (.int .u64 ((rd_T27 l0 x4_1).f2)) ∧ w'.cell? ⟨(ad181.add ((x4_1).toNat * 8)).block, (ad181.add ((x4_1).toNat * 8)).off + 3, none⟩ = some (.int .u8 ((rd_T27 l0 x4_1).f3)) ∧ w'.cell? ⟨(ad181.add ((x4_1).toNat * 8)).block, (ad181.add ((x4_1).toNat * 8)).off + 4, none⟩ = some (.string ((rd_T27 l0 x4_1).f4)) ∧ w'.cell? ⟨(ad181.add ((x4_1).toNat * 8)).block, (ad181.add ((x4_1).toNat * 8)).off + 5, none⟩ = some (.string ((rd_T27 l0 x4_1).f5)) ∧ w'.cell? ⟨(ad181.add ((x4_1).toNat * 8)).block, (ad181.add ((x4_1).toNat * 8)).off + 6, none⟩ = some (.int .i64 ((rd_T27 l0 x4_1).f6)) ∧ w'.cell? ⟨(ad181.add ((x4_1).toNat * 8)).block, (ad181.add ((x4_1).toNat * 8)).off + 7, none⟩ = some (.int .i64 ((rd_T27 l0 x4_1).f7))) (ds := []) #[false, false, false, false, false, false, false, false, false, false, false, false] (by kernel_rfl) rfl rfl ⟨((HB.out.cell (World.block_lt_of_cell? w _ hw181_0)).trans hw181_0), ((HB.out.cell (World.block_lt_of_cell? w _ hw181_1)).trans hw181_1), ((HB.out.cell (World.block_lt_of_cell? w _ hw181_2)).trans hw181_2), ((HB.out.cell (World.block_lt_of_cell? w _ hw181_3)).trans hw181_3), ((HB.out.cell (World.block_lt_of_cell? w _ hw181_4)).trans hw181_4), ((HB.out.cell (World.block_lt_of_cell? w _ hw181_5)).trans hw181_5), ((HB.out.cell (World.block_lt_of_cell? w _ hw181_6)).trans hw181_6), ((HB.out.cell (World.block_lt_of_cell? w _ hw181_7)).trans hw181_7)⟩ (fun hHeld => ?_); refine with_tabW merkhetref01_Sort.tab9 merkhetref01_Sort.bits9 (fun HT_ HW_ => ?_)
                            generalize w45.drew = w46 at HO_3 HO177 HR174 HB HO180 hx181_0 hx181_1 hx181_2 hx181_3 hx181_4 hx181_5 hx181_6 hx181_7 hHeld ⊢
                            refine pure_ (i := 0) (N := some 38) (v := ?_) (a' := ?_) #[true, false, false, false, false, false, false, false, false, false, false, false] rfl rfl (any_of HT_.out (by kernel_rfl)) (fun _ _ _ h => h) (Or.inl ⟨by rfl, ?_⟩) ?_ ?_
                            rotate_left
                            · intro w'
                              go_simp
                              with_reducible rfl
                            rotate_left
                            · simp only [Act.put, List.setIfInBounds_toArray, List.set_cons_zero, List.set_cons_succ, i64_w, i32_w]
                              rfl
                            refine pure_ (i := 1) (N := some 39) (v := ?_) (a' := ?_) #[true, true, false, false, false, false, false, false, false, false, false, false] rfl rfl (any_of HT_.out (by kernel_rfl)) (fun _ _ _ h => h) (Or.inl ⟨by rfl, ?_⟩) ?_ ?_
                            rotate_left
                            · intro w'
                              go_simp
                              with_reducible rfl
                            rotate_left
                            · simp only [Act.put, List.setIfInBounds_toArray, List.set_cons_zero, List.set_cons_succ, i64_w, i32_w]
                              rfl
                            refine pure_ (i := 2) (N := some 40) (v := ?_) (a' := ?_) #[true, true, true, false, false, false, false, false, false, false, false, false] rfl rfl (any_of HT_.out (by kernel_rfl)) (fun _ _ _ h => h) (Or.inl ⟨by rfl, ?_⟩) ?_ ?_
                            rotate_left
                            · intro w'
                              go_simp
                              with_reducible rfl
                            rotate_left
                            · simp only [Act.put, List.setIfInBounds_toArray, List.set_cons_zero, List.set_cons_succ, i64_w, i32_w]
                              rfl
                            refine pure_ (i := 3) (N := some 41) (v := ?_) (a' := ?_) #[true, true, true, true, false, false, false, false, false, false, false, false] rfl rfl (any_of HT_.out (by kernel_rfl)) (fun _ _ _ h => h) (Or.inl ⟨by rfl, ?_⟩) ?_ ?_
                            rotate_left
                            · intro w'
                              go_simp
                              with_reducible rfl
                            rotate_left
                            · simp only [Act.put, List.setIfInBounds_toArray, List.set_cons_zero, List.set_cons_succ, i64_w, i32_w]
                              rfl
                            refine pure_ (i := 4) (N := some 42) (v := ?_) (a' := ?_) #[true, true, true, true, true, false, false, false, false, false, false, false] rfl rfl (any_of HT_.out (by kernel_rfl)) (fun _ _ _ h => h) (Or.inl ⟨by rfl, ?_⟩) ?_ ?_
                            rotate_left
                            · intro w'
                              go_simp
                              with_reducible rfl
                            rotate_left
                            · simp only [Act.put, List.setIfInBounds_toArray, List.set_cons_zero, List.set_cons_succ, i64_w, i32_w]
                              rfl
                            refine pure_ (i := 5) (N := some 43) (v := ?_) (a' := ?_) #[true, true, true, true, true, true, false, false, false, false, false, false] rfl rfl (any_of HT_.out (by kernel_rfl)) (fun _ _ _ h => h) (Or.inl ⟨by rfl, ?_⟩) ?_ ?_
                            rotate_left
                            · intro w'
                              go_simp
                              with_reducible rfl
                            rotate_left
                            · simp only [Act.put, List.setIfInBounds_toArray, List.set_cons_zero, List.set_cons_succ, i64_w, i32_w]
                              rfl
                            refine pure_ (i := 9) (N := some 47) (v := ?_) (a' := ?_) #[true, true, true, true, true, true, false, false, false, true, false, false] rfl rfl (any_of HT_.out (by kernel_rfl)) (fun _ _ _ h => h) (Or.inl ⟨by rfl, ?_⟩) ?_ ?_
                            rotate_left
                            · intro w'
                              go_simp
                              with_reducible rfl
                            rotate_left
                            · simp only [Act.put, List.setIfInBounds_toArray, List.set_cons_zero, List.set_cons_succ, i64_w, i32_w]
                              rfl
                            refine take_ (i := 6) (N := some 44) (v := ?_) (a' := ?_) #[true, true, true, true, true, true, true, false, false, true, false, false] rfl rfl (take_ofW HT_.out HW_.out (by kernel_rfl)) (fun _ _ _ h => h) (Or.inl ⟨by rfl, ?_⟩) hHeld ?_ ?_
                            rotate_left
                            · rintro w' ⟨s0, s1, s2, s3, s4, s5, s6, s7⟩
                              go_simp
                              with_reducible rfl
                            rotate_left
                            · simp only [Act.put, List.setIfInBounds_toArray, List.set_cons_zero, List.set_cons_succ, i64_w, i32_w]
                              rfl
                            refine one_ (i := 7) (N := some 45) #[true, true, true, true, true, true, true, true, false, true, false, false] rfl rfl (one_of HT_.out (by kernel_rfl)) (by decide) (fun K hK => ?_)
                            refine value_ (w1 := ?_) (v := ?_) (by rfl) rfl ?_ ?_
                            rotate_left 2
                            · go_simp
                              constructor
                              · rfl
                              · rfl
                            refine hK.out _ _ ⟨(World.cell?_alloc_lt _ _ _ (World.block_lt_of_cell? _ _ (((HB.out.cell (World.block_lt_of_cell? w _ hw181_0)).trans hw181_0)))).trans (((HB.out.cell (World.block_lt_of_cell? w _ hw181_0)).trans hw181_0)), (World.cell?_alloc_lt _ _ _ (World.block_lt_of_cell? _ _ (((HB.out.cell (World.block_lt_of_cell? w _ hw181_1)).trans hw181_1)))).trans (((HB.out.cell (World.block_lt_of_cell? w _ hw181_1)).trans hw181_1)), (World.cell?_alloc_lt _ _ _ (World.block_lt_of_cell? _ _ (((HB.out.cell (World.block_lt_of_cell? w _ hw181_2)).trans hw181_2)))).trans (((HB.out.cell (World.block_lt_of_cell? w _ hw181_2)).trans hw181_2)), (World.cell?_alloc_lt _ _ _ (World.block_lt_of_cell? _ _ (((HB.out.cell (World.block_lt_of_cell? w _ hw181_3)).trans hw181_3)))).trans (((HB.out.cell (World.block_lt_of_cell? w _ hw181_3)).trans hw181_3)), (World.cell?_alloc_lt _ _ _ (World.block_lt_of_cell? _ _ (((HB.out.cell (World.block_lt_of_cell? w _ hw181_4)).trans hw181_4)))).trans (((HB.out.cell (World.block_lt_of_cell? w _ hw181_4)).trans hw181_4)), (World.cell?_alloc_lt _ _ _ (World.block_lt_of_cell? _ _ (((HB.out.cell (World.block_lt_of_cell? w _ hw181_5)).trans hw181_5)))).trans (((HB.out.cell (World.block_lt_of_cell? w _ hw181_5)).trans hw181_5)), (World.cell?_alloc_lt _ _ _ (World.block_lt_of_cell? _ _ (((HB.out.cell (World.block_lt_of_cell? w _ hw181_6)).trans hw181_6)))).trans (((HB.out.cell (World.block_lt_of_cell? w _ hw181_6)).trans hw181_6)), (World.cell?_alloc_lt _ _ _ (World.block_lt_of_cell? _ _ (((HB.out.cell (World.block_lt_of_cell? w _ hw181_7)).trans hw181_7)))).trans (((HB.out.cell (World.block_lt_of_cell? w _ hw181_7)).trans hw181_7))⟩ (fun hHeld => ?_)
                            clear hK K
                            refine norm_ (a' := ?_) ?_ ?_
                            rotate_left
                            · show Act.put _ (some 45) _ = _
                              simp only [Act.put, List.setIfInBounds_toArray, List.set_cons_zero, List.set_cons_succ, i64_w, i32_w]
                              rfl
                            refine one_ (i := 8) (N := some 46) #[true, true, true, true, true, true, true, true, true, true, false, false] rfl rfl (one_of HT_.out (by kernel_rfl)) (by decide) (fun K hK => ?_)
                            refine Kd.R_append_step k27 (w0 := w) w.heap.size (by rfl) (.tmp 40) (.tmp 45) 23 27 (.agg #[(.int .u64 0), (.int .u64 0), (.int .u64 0), (.int .u8 0), (.string ⟨#[]⟩), (.string ⟨#[]⟩), (.int .i64 0), (.int .i64 0)]) 80 rfl Try.underlying23 info27 rfl (by decide) (by omega) (.slice Ao5 y178.length co5) y178 (⟨(rd_T27 l0 x4_1).f0, (rd_T27 l0 x4_1).f1, (rd_T27 l0 x4_1).f2, (rd_T27 l0 x4_1).f3, (rd_T27 l0 x4_1).f4, (rd_T27 l0 x4_1).f5, (rd_T27 l0 x4_1).f6, (rd_T27 l0 x4_1).f7⟩ : S27) [.int .u64 ((rd_T27 l0 x4_1).f0), .int .u64 ((rd_T27 l0 x4_1).f1), .int .u64 ((rd_T27 l0 x4_1).f2), .int .u8 ((rd_T27 l0 x4_1).f3), .string ((rd_T27 l0 x4_1).f4), .string ((rd_T27 l0 x4_1).f5), .int .i64 ((rd_T27 l0 x4_1).f6), .int .i64 ((rd_T27 l0 x4_1).f7)] (fun k_ => some k_ ≠ (v176 : Value).ownBlock) (fun _ => False) rfl rfl ?aP (fun _ hk => hk.elim) ?aF ?aO ?aB ?aS ?aL ?_
                            (case aP => exact k27_mkM _ _ _ (⟨(rd_T27 l0 x4_1).f0, (rd_T27 l0 x4_1).f1, (rd_T27 l0 x4_1).f2, (rd_T27 l0 x4_1).f3, (rd_T27 l0 x4_1).f4, (rd_T27 l0 x4_1).f5, (rd_T27 l0 x4_1).f6, (rd_T27 l0 x4_1).f7⟩ : S27))
                            (case aB => exact (by repeat (first | (with_reducible first | exact HB.out | apply below_alloc | apply pw_below_drewN | apply below_drew1) | exact HB.out)))
                            (case aF => exact (fun k_ hk => Kd.fresh' (Kd.R_lt (by (with_reducible repeat (first | apply Kd.R_alloc | apply Kd.R_drewN | apply Kd.R_drew)); exact HO177.out)) k_ hk))
                            (case aO => exact (by (with_reducible repeat (first | apply Kd.R_alloc | apply Kd.R_drewN | apply Kd.R_drew)); exact Kd.R_mono HO180.out (fun _ hk => hk.2)))
                            (case aS => exact (below_size (by repeat (first | (with_reducible first | exact HB.out | apply below_alloc | apply pw_below_drewN | apply below_drew1) | exact HB.out))))
                            (case aL => have := LMc39.out; omega)
                            intro v183 w48 ho hb hg hat
                            rw [← Ny182.out] at ho
                            have n0_ := Aside0.mk (Kd.R_after (ok := (fun _ => True)) (by (with_reducible repeat (first | apply Kd.R_alloc | apply Kd.R_drewN | apply Kd.R_drew)); exact Kd.R_mono HO177.out (fun _ hk => ⟨trivial, by first | exact hk | exact fun h_ => hk (h_.trans (own_len _ _ _ _ _))⟩)) hg hat)
                            have n1_ := Aside0.mk (hb)
                            have n2_ := Aside0.mk (ho)
                            clear HO177
                            clear HB
                            clear HO180
                            have HO177 := n0_
                            have HB := n1_
                            have HO184 := n2_
                            clear n0_ n1_ n2_
                            clear ho hb hg hat
                            obtain ⟨Ao50, co50, eo50⟩ := Kd.R_slice HO177.out
                            (first | subst eo50 | (injection eo50 with f1_ f2_ f3_; have f4_ := f1_.symm; have f5_ := f3_.symm; clear f1_ f2_ f3_; subst f4_; subst f5_))
                            refine hK.out _ _ ⟨((HB.out.cell (World.block_lt_of_cell? w _ hw181_0)).trans hw181_0), ((HB.out.cell (World.block_lt_of_cell? w _ hw181_1)).trans hw181_1), ((HB.out.cell (World.block_lt_of_cell? w _ hw181_2)).trans hw181_2), ((HB.out.cell (World.block_lt_of_cell? w _ hw181_3)).trans hw181_3), ((HB.out.cell (World.block_lt_of_cell? w _ hw181_4)).trans hw181_4), ((HB.out.cell (World.block_lt_of_cell? w _ hw181_5)).trans hw181_5), ((HB.out.cell (World.block_lt_of_cell? w _ hw181_6)).trans hw181_6), ((HB.out.cell (World.block_lt_of_cell? w _ hw181_7)).trans hw181_7)⟩ (fun hHeld => ?_)
                            clear hK K
                            refine norm_ (a' := ?_) ?_ ?_
                            rotate_left
                            · show Act.put _ (some 46) _ = _
                              simp only [Act.put, List.setIfInBounds_toArray, List.set_cons_zero, List.set_cons_succ, i64_w, i32_w]
                              rfl
                            refine one_ (i := 10) (N := some 48) #[true, true, true, true, true, true, true, true, true, true, true, false] rfl rfl (one_of HT_.out (by kernel_rfl)) (by decide) (fun K hK => ?_)
                            refine Kd.R_append_rows_step k27 (w0 := w) w.heap.size (by rfl) (.tmp 46) (.tmp 47) 23 27 (.agg #[(.int .u64 0), (.int .u64 0), (.int .u64 0), (.int .u8 0), (.string ⟨#[]⟩), (.string ⟨#[]⟩), (.int .i64 0), (.int .i64 0)]) 80 rfl Try.underlying23 info27 rfl (by decide) (by omega) v183 y182 y175 _ _ _ (fun k_ => some k_ ≠ (.slice Ao50 y175.length co50 : Value).ownBlock) (fun _ => False) rfl rfl ?aO ?aR (fun _ _ h => h) (fun _ h => h.elim) ?aF ?aB ?aS ?aL ?_
                            (case aR => repeat (first | exact (Kd.R_reads' HO177.out).2.2 | (with_reducible refine Kd.C_alloc ?_ _) | (with_reducible refine Kd.C_drewN ?_ _) | (with_reducible refine Kd.C_drew ?_)))
                            (case aB => exact (by repeat (first | (with_reducible first | exact HB.out | apply below_alloc | apply pw_below_drewN | apply below_drew1) | exact HB.out)))
                            (case aF => exact (fun k_ hk => Kd.fresh' (Kd.R_lt (by (with_reducible repeat (first | apply Kd.R_alloc | apply Kd.R_drewN | apply Kd.R_drew)); exact HO177.out)) k_ hk))
                            (case aO => exact (by (with_reducible repeat (first | apply Kd.R_alloc | apply Kd.R_drewN | apply Kd.R_drew)); exact HO184.out))
                            (case aS => exact (below_size (by repeat (first | (with_reducible first | exact HB.out | apply below_alloc | apply pw_below_drewN | apply below_drew1) | exact HB.out))))
                            (case aL => have := LMc40.out; omega)
                            intro v186 w49 ho hb hg hat
                            rw [← Ny185.out] at ho
                            have n0_ := Aside0.mk (Kd.R_after (ok := (fun _ => True)) (by (with_reducible repeat (first | apply Kd.R_alloc | apply Kd.R_drewN | apply Kd.R_drew)); exact HO177.out) hg hat)
                            have n1_ := Aside0.mk (hb)
                            have n2_ := Aside0.mk (ho)
                            clear HO177
                            clear HB
                            clear HO184
                            have HO177 := n0_
                            have HB := n1_
                            have HO187 := n2_
                            clear n0_ n1_ n2_
                            clear ho hb hg hat
                            refine hK.out _ _ ⟨((HB.out.cell (World.block_lt_of_cell? w _ hw181_0)).trans hw181_0), ((HB.out.cell (World.block_lt_of_cell? w _ hw181_1)).trans hw181_1), ((HB.out.cell (World.block_lt_of_cell? w _ hw181_2)).trans hw181_2), ((HB.out.cell (World.block_lt_of_cell? w _ hw181_3)).trans hw181_3), ((HB.out.cell (World.block_lt_of_cell? w _ hw181_4)).trans hw181_4), ((HB.out.cell (World.block_lt_of_cell? w _ hw181_5)).trans hw181_5), ((HB.out.cell (World.block_lt_of_cell? w _ hw181_6)).trans hw181_6), ((HB.out.cell (World.block_lt_of_cell? w _ hw181_7)).trans hw181_7)⟩ (fun hHeld => ?_)
                            clear hK K
                            refine norm_ (a' := ?_) ?_ ?_
                            rotate_left
                            · show Act.put _ (some 48) _ = _
                              simp only [Act.put, List.setIfInBounds_toArray, List.set_cons_zero, List.set_cons_succ, i64_w, i32_w]
                              rfl
                            refine pure_ (i := 11) (N := some 3) (v := ?_) (a' := ?_) #[true, true, true, true, true, true, true, true, true, true, true, true] rfl rfl (any_of HT_.out (by kernel_rfl)) (fun _ _ _ h => h) (Or.inl ⟨by rfl, ?_⟩) ?_ ?_
                            rotate_left
                            · intro w'
                              go_simp
                              with_reducible rfl
                            rotate_left
                            · simp only [Act.put, List.setIfInBounds_toArray, List.set_cons_zero, List.set_cons_succ, i64_w, i32_w]
                              rfl
                            refine done_ (done_of HT_.out (by kernel_rfl)) ?_
                            try go_wp2
                            go_roundg k2
                            case measure => have := HK1.out; have := HK2.out; omega
                            case rel => exact ⟨(y185), (wrap64 (x4_1 + 1)), (by first | rfl | (simp; done) | (simp [*]; done)), H', ⟨by have := HK1.out; have := HK2.out; omega⟩, ⟨by (with_reducible repeat (first | apply Kd.R_alloc | apply Kd.R_drewN | apply Kd.R_drew)); exact Kd.R_mono HO187.out (fun _ hk => trivial)⟩, ⟨by repeat (first | (with_reducible first | exact HB.out | apply below_alloc | apply pw_below_drewN | apply below_drew1) | exact HB.out)⟩⟩
                          · rw [if_neg c40] at H
                            exact absurd H (by simp)
                        · rw [if_neg c39] at H
                          exact absurd H (by simp)
                      · rw [if_neg c38] at H
                        exact absurd H (by simp)
                    · rw [if_neg c37] at H
                      exact absurd H (by simp)
                  · rw [if_neg c35] at H
                    exact absurd H (by simp)
                · rw [if_neg c34] at H
                  exact absurd H (by simp)
              · rw [if_neg c33] at H
                exact absurd H (by simp)
      · rw [if_neg c4] at H
        have c4b0 : decide (x4_1 < (l0.length : Int)) = false := decide_eq_false c4
        clear c4
        obtain rfl := Option.some.inj H
        go_wp2
        go_ret
        exact ⟨_, by first | rfl | (simp [errW_none, errW_some] <;> rfl) | (simp [*, errW_none, errW_some] <;> rfl), by (with_reducible repeat (first | apply Kd.R_alloc | apply Kd.R_drewN | apply Kd.R_drew)); exact HO_3.out, by repeat (first | (with_reducible first | exact HB.out | apply below_alloc | apply pw_below_drewN | apply below_drew1) | exact HB.out)⟩

end Go.Proofs.Ytkpmaenhkjfncaa.Q
