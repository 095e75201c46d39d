/- Texts joined by wip/tools/merge.py: Ox1 OOpens ParR PairR SpanT RefH RefK EdgeRO RefG PureBoundOf. -/
import Derived.Test.YtjgpggjjgimibaaJBoundOf1
import Derived.Test.YtjgpggjjgimibaaJBoundOf2
import Derived.KernelRfl
import Derived.Test.YtjgpggjjgimibaaJBoundOf0
-- Written by wip/tools/gp.py, a program of this session round the kit's printer. Lean checks it.
namespace Go.Proofs.Ytjgpggjjgimibaa.O
open Go.RowKit Go.Proofs.Ytjgpggjjgimibaa.Q Go.Proofs.YtjgpggjjgimibaaW.PrintWords Go.Proofs.YtjgpggjjgimibaaW.PrintLast Go.Proofs.YtjgpggjjgimibaaW.PrintMore
attribute [local go_sem] max2_int min2_int max_two min_two max_three min_three max_four min_four   -- for this text's walks alone
set_option linter.unusedVariables false
set_option linter.unusedSimpArgs false

/-! ### merkhetlaw14_fixed: function 12 (given) -/
def merkhetlaw14_fixed.f : Option Bool := some true
theorem merkhetlaw14_fixed.calls (r : Bool) (w : World) (h : merkhetlaw14_fixed.f = some r) :
    Calls Try.prog 12 #[] w fun e w' => e = .returned (.bool r) ∧ Below w.heap.size w w' := by
  obtain rfl := Option.some.inj h
  exact L.fixed_calls w

/-! ### bound_Of: function 16 (given) -/
def bound_Of.f (l0 : List S42) (l1 : List S35) : Option (List S37) := if l0.length ≤ 1759218604441 ∧ (∀ x ∈ l0, L.fitS x) ∧ l1.length ≤ 100000000 then some (L.edgesB L.mayS l0 (L.numsL l0) l1) else none
theorem bound_Of.calls (A0 : Option Addr) (c0 : Nat) (l0 : List (S42)) (A1 : Option Addr) (c1 : Nat) (l1 : List (S35)) (r : List (S37)) (w : World) (hr0 : Kd.C k42 w A0 l0.length l0) (hc0 : l0.length ≤ c0) (hr1 : Kd.C k35 w A1 l1.length l1) (hc1 : l1.length ≤ c1) (h : bound_Of.f l0 l1 = some r) :
    Calls Try.prog 16 #[.slice A0 l0.length c0, .slice A1 l1.length c1] w fun e w' => ∃ v0_ : Value, e = .returned (v0_) ∧ Kd.R k37 37 w' w.heap.size (fun _ => True) v0_ r ∧ Below w.heap.size w w' := by
  unfold bound_Of.f at h
  split at h
  · rename_i hl
    obtain rfl := Option.some.inj h
    exact L.edges_calls L.mayS l0 (L.mayS_ev l0 hl.2.1) hl.1 hl.2.1 l1 hl.2.2 A0 A1 c0 c1 w hr0 hc0 hr1
  · cases h

/-! ### merkhetref12_Gaps: function 29 (given) -/
def merkhetref12_Gaps.f (l0 : List S42) (a1_0 a1_1 : Int) : Option (Int × Int × Bool) := if (∀ x ∈ l0, L.fitR x) then some (L.gapsB L.mayS l0 a1_0 a1_1) else none
theorem merkhetref12_Gaps.calls (A0 : Option Addr) (c0 : Nat) (l0 : List (S42)) (a1_0 : Int) (a1_1 : Int) (r1 : Int) (r2 : Int) (r3 : Bool) (w : World) (hr0 : Kd.C k42 w A0 l0.length l0) (hc0 : l0.length ≤ c0) (h : merkhetref12_Gaps.f l0 a1_0 a1_1 = some (r1, r2, r3)) :
    Calls Try.prog 29 #[.slice A0 l0.length c0, .agg #[.int .i64 a1_0, .int .i64 a1_1]] w fun e w' => e = .returned (.tuple #[.int .i64 r1, .int .i64 r2, .bool r3]) ∧ Below w.heap.size w w' := by
  unfold merkhetref12_Gaps.f at h
  split at h
  · rename_i hl
    have e := Option.some.inj h
    have c := L.rgaps_calls l0 hl a1_0 a1_1 A0 c0 w hr0
    rw [e] at c
    exact c
  · cases h

/-! ### merkhetref14_Of: function 17 -/
def merkhetref14_Of.l0 : Nat → List (S42) → List (S35) → List Int → List (S37) → Int → Option ((List (S37)))
  | 0, _, _, _, _, _ => none
  | k + 1, x0, x1, x5, x6, x7 => if x7 < (x1.length : Int) then (if 0 ≤ x7 then ((merkhetref12_Gaps.f x0 ((rd_T35 x1 x7).f0) ((rd_T35 x1 x7).f1)).bind fun bt109 => (if bt109.2.2 = true then (if 0 ≤ ((rd_T35 x1 x7).f1) then (if ((rd_T35 x1 x7).f1) < (x5.length : Int) then (if 0 ≤ ((rd_T35 x1 x7).f0) then (if ((rd_T35 x1 x7).f0) < (x5.length : Int) then (if x6.length < 2932031007402 then ((some (x6 ++ [(⟨rd x5 ((rd_T35 x1 x7).f1), rd x5 ((rd_T35 x1 x7).f0), bt109.1, (⟨(rd_T35 x1 x7).f0, (rd_T35 x1 x7).f1⟩ : S35), false⟩ : S37)] : List (S37))).bind fun y114 => (if y114.length < 2932031007402 then (merkhetref14_Of.l0 k x0 x1 x5 (y114 ++ [(⟨rd x5 ((rd_T35 x1 x7).f0), rd x5 ((rd_T35 x1 x7).f1), bt109.2.1, (⟨(rd_T35 x1 x7).f0, (rd_T35 x1 x7).f1⟩ : S35), true⟩ : S37)]) (wrap64 (x7 + 1))) else (none))) else (none)) else (none)) else (none)) else (none)) else (none)) else (merkhetref14_Of.l0 k x0 x1 x5 x6 (wrap64 (x7 + 1))))) else (none)) else (some x6)
def merkhetref14_Of.f (k : Nat) (l0 : List (S42)) (l1 : List (S35)) : Option ((List (S37))) := (merkhetref13_Of.f k l0).bind fun t101 => (merkhetref14_Of.l0 k l0 l1 t101 (([] : List (S37))) 0)
theorem merkhetref14_Of.mono_l : ∀ k, (∀ y0 y1 y2 y3 y4, LeO (merkhetref14_Of.l0 k y0 y1 y2 y3 y4) (merkhetref14_Of.l0 (k + 1) y0 y1 y2 y3 y4))
  | 0 => fun _ _ _ _ _ r h => by simp [merkhetref14_Of.l0] at h
  | k + 1 => by
    have ih0 := merkhetref14_Of.mono_l k
    · intro y0 y1 y2 y3 y4
      unfold merkhetref14_Of.l0
      repeat' first
      | (with_reducible exact ih0 _ _ _ _ _)
      | (with_reducible exact merkhetref13_Of.mono _ _)
      | (with_reducible exact LeO.refl _)
      | (with_reducible exact LeO.none _)
      | (with_reducible refine LeO.ite ?_ ?_)
      | (with_reducible refine LeO.bind ?_ (fun _ => ?_))
      | exact ih0 _ _ _ _ _
      | exact merkhetref13_Of.mono _ _
      | exact LeO.none _
      | refine LeO.ite ?_ ?_
      | refine LeO.bind ?_ (fun _ => ?_)
theorem merkhetref14_Of.mono : ∀ a0 a1 k, LeO (merkhetref14_Of.f k a0 a1) (merkhetref14_Of.f (k + 1) a0 a1) := by
  intro a0 a1 k
  have ih0 := merkhetref14_Of.mono_l k
  unfold merkhetref14_Of.f
  repeat' first
      | (with_reducible exact ih0 _ _ _ _ _)
      | (with_reducible exact merkhetref13_Of.mono _ _)
      | (with_reducible exact LeO.refl _)
      | (with_reducible exact LeO.none _)
      | (with_reducible refine LeO.ite ?_ ?_)
      | (with_reducible refine LeO.bind ?_ (fun _ => ?_))
      | exact ih0 _ _ _ _ _
      | exact merkhetref13_Of.mono _ _
      | exact LeO.none _
      | refine LeO.ite ?_ ?_
      | refine LeO.bind ?_ (fun _ => ?_)
def merkhetref14_Of.T9 : Bool × List (List Nat × List Nat) := (true, [([], []), ([], []), ([], []), ([2], [2]), ([1, 3], [1, 3]), ([4], [4]), ([], []), ([], []), ([7], [7]), ([6, 8], [6, 8]), ([9], [9]), ([], []), ([], []), ([5, 10, 11, 12], [5, 10, 11, 12]), ([13], [13]), ([0, 14], [0, 14]), ([15, 15, 0, 1, 2, 3, 4, 5, 6, 7, 8, 9, 10, 11, 12, 13, 14, 15], [0, 15])])
def merkhetref14_Of.B9 : List Nat := [0, 0, 0, 4, 14, 30, 0, 0, 128, 448, 960, 0, 0, 8190, 16382, 32767, 65535]
theorem merkhetref14_Of.tab9 : rtab .any (opsOf Try.f17 9) = merkhetref14_Of.T9 := by kernel_rfl
theorem merkhetref14_Of.bits9 : waitsOk merkhetref14_Of.T9.2 merkhetref14_Of.B9 = true := by kernel_rfl
def merkhetref14_Of.T10 : Bool × List (List Nat × List Nat) := (true, [([], []), ([], []), ([], []), ([2], [2]), ([1, 3], [1, 3]), ([4], [4]), ([], []), ([], []), ([7], [7]), ([6, 8], [6, 8]), ([9], [9]), ([], []), ([], []), ([5, 10, 11, 12], [5, 10, 11, 12]), ([13], [13]), ([0, 14], [0, 14]), ([15, 15, 0, 1, 2, 3, 4, 5, 6, 7, 8, 9, 10, 11, 12, 13, 14, 15], [0, 15])])
def merkhetref14_Of.B10 : List Nat := [0, 0, 0, 4, 14, 30, 0, 0, 128, 448, 960, 0, 0, 8190, 16382, 32767, 65535]
theorem merkhetref14_Of.tab10 : rtab .any (opsOf Try.f17 10) = merkhetref14_Of.T10 := by kernel_rfl
theorem merkhetref14_Of.bits10 : waitsOk merkhetref14_Of.T10.2 merkhetref14_Of.B10 = true := by kernel_rfl
set_option maxHeartbeats 8000000 in
set_option maxRecDepth 100000 in
theorem merkhetref14_Of.calls (k : Nat) (A0 : Option Addr) (c0 : Nat) (l0 : List (S42)) (A1 : Option Addr) (c1 : Nat) (l1 : List (S35)) (r : List (S37)) (w : World) (hr0 : Kd.C k42 w A0 l0.length l0) (hc0 : l0.length ≤ c0) (hr1 : Kd.C k35 w A1 l1.length l1) (hc1 : l1.length ≤ c1) (h : merkhetref14_Of.f k l0 l1 = some r) :
    Calls Try.prog 17 #[.slice A0 l0.length c0, .slice A1 l1.length c1] w fun e w' => ∃ v0_ : Value, e = .returned (v0_) ∧ Kd.R k37 37 w' w.heap.size (fun _ => True) v0_ r ∧ Below w.heap.size w w' := by
  have hu35 := Try.underlying35
  have hu37 := Try.underlying37
  have HR0 := Aside0.mk hr0
  have HC0 := Aside0.mk hc0
  clear hr0 hc0
  have HR1 := Aside0.mk hr1
  have HC1 := Aside0.mk hc1
  clear hr1 hc1
  have HB := Aside0.mk (Below.refl w.heap.size w)
  have H : ((merkhetref13_Of.f k l0).bind fun t101 => (merkhetref14_Of.l0 k l0 l1 t101 (([] : List (S37))) 0)) = some r := h
  clear h
  replace H := Option.bind_eq_some_iff.mp H
  obtain ⟨t101, A30, H⟩ := H
  replace H : (merkhetref14_Of.l0 k l0 l1 t101 (([] : List (S37))) 0) = some r := H
  have A3 := Aside0.mk A30
  clear A30
  obtain ⟨y104, hy104⟩ : ∃ y_ : List (S37), y_ = (([] : List (S37))) := ⟨_, rfl⟩
  replace H : (merkhetref14_Of.l0 k l0 l1 t101 y104 0) = some r := by first | (rw [hy104]; with_reducible exact H) | (have H2_ := (Option.bind_some _ _).symm.trans H; rw [hy104]; with_reducible exact H2_) | (have H2_ := (Option.bind_some _ _).symm.trans H; with_reducible exact H2_) | with_reducible exact H | (rw [hy104]; exact H) | exact H
  have Ny104 := Aside0.mk hy104
  clear hy104
  have H' := Aside0.mk H
  clear H
  go_enter Try.func17, Try.ntmps17
  go_wp2_with (first | ((with_reducible refine gate_callee (f := 22) rfl ?_); refine goesL_ (some 13) rfl rfl Try.func22 (by kernel_rfl) rfl #[.slice A0 l0.length c0] rfl (by (try simp only [List.map_toArray, List.map_cons, List.map_nil]); first | done | rfl | (simp only [List.length_drop, List.length_take]; rfl)) ?_; (with_reducible refine (merkhetref13_Of.calls k _ _ l0 t101 _ ?side1 ?side2 A3.out).mono ?_); (case side1 => repeat (first | exact HR0.out | (with_reducible refine Kd.C_alloc ?_ _) | (with_reducible refine Kd.C_drewN ?_ _) | (with_reducible refine Kd.C_drew ?_))); (case side2 => exact HC0.out); rintro e w4 ⟨v102, rfl, ho0, hb⟩; refine ⟨_, rfl, ?_⟩; have n0_ := Aside0.mk (Kd.R_lower ho0 (below_size (by repeat (first | (with_reducible first | exact HB.out | apply below_alloc | apply pw_below_drewN | apply below_drew1) | exact HB.out)))); have n1_ := Aside0.mk (below_step (by repeat (first | (with_reducible first | exact HB.out | apply below_alloc | apply pw_below_drewN | apply below_drew1) | exact HB.out)) hb); clear HB; have HO103 := n0_; have HB := n1_; clear n0_ n1_; (try clear hb); (try clear hb2); (try clear hk); (try clear hi); (try clear ho0)) | ((with_reducible refine gate_dst (N := 14) rfl ?_); refine Kd.R_lit k37 _ 37 ?hg (N := 14) ?hd (xs := ([] : List (S37))) (inner := []) (ok := fun _ => True) (okp := fun _ => True) ?hr ?hp (fun _ hk => hk) trivial (Below.refl _ _) (Nat.le_refl _) (by simp) ?_; (case hd => rfl); (case hg => rfl); (case hr => first | (go_simp; done) | (go_simp; rfl)); (case hp => exact (Reps.none _ _)); intro v105 w5 ho6 hb hg_ hnew_; clear hg_ hnew_; (first | rw [← Ny104.out] at ho6 | (simp only [Int.reduceToNat] at ho6; rw [← Ny104.out] at ho6)); have n0_ := Aside0.mk (Kd.R_below (by (with_reducible repeat (first | apply Kd.R_alloc | apply Kd.R_drewN | apply Kd.R_drew)); exact HO103.out) hb); have n1_ := Aside0.mk (Kd.R_lower ho6 (below_size (by repeat (first | (with_reducible first | exact HB.out | apply below_alloc | apply pw_below_drewN | apply below_drew1) | exact HB.out)))); have n2_ := Aside0.mk (below_step (by repeat (first | (with_reducible first | exact HB.out | apply below_alloc | apply pw_below_drewN | apply below_drew1) | exact HB.out)) hb); clear HO103; clear HB; have HO103 := n0_; have HO106 := n1_; have HB := n2_; clear n0_ n1_ n2_; clear hb ho6))
  go_loopg [6, 7] k (fun kq v6 v7 w' => ∃ (x6_1 : List (S37)) (x7_1 : Int), v7 = .int .i64 x7_1 ∧ Aside0 (merkhetref14_Of.l0 kq l0 l1 t101 x6_1 x7_1 = some r) ∧ Aside0 (kq ≤ k) ∧ Aside0 (Kd.R (Kd.int .i64) 3 w' w.heap.size (fun _ => True) v102 t101) ∧ Aside0 (Kd.R k37 37 w' w.heap.size (fun _ => True) v6 x6_1) ∧ Aside0 (Below w.heap.size w w'))
  case atStart => exact ⟨(y104), (0), (by first | rfl | (simp; done) | (simp [*]; done)), H', ⟨Nat.le_refl _⟩, ⟨by (with_reducible repeat (first | apply Kd.R_alloc | apply Kd.R_drewN | apply Kd.R_drew)); exact HO103.out⟩, ⟨by (with_reducible repeat (first | apply Kd.R_alloc | apply Kd.R_drewN | apply Kd.R_drew)); exact HO106.out⟩, ⟨by repeat (first | (with_reducible first | exact HB.out | apply below_alloc | apply pw_below_drewN | apply below_drew1) | exact HB.out)⟩⟩
  case round =>
    clear H'
    try clear c1
    try clear c2
    try clear p2
    obtain ⟨x6_1, x7_1, rfl, HA, HK1, HO_5, HO_6, HB⟩ := hrel
    cases gk with
    | zero => exact absurd HA.out (by simp [merkhetref14_Of.l0])
    | succ k1 =>
      have H := HA.out
      clear HA
      simp only [merkhetref14_Of.l0] at H
      by_cases c7 : x7_1 < (l1.length : Int)
      · rw [if_pos c7] at H
        have c7b0 : decide (x7_1 < (l1.length : Int)) = true := decide_eq_true c7
        clear c7
        by_cases c8 : 0 ≤ x7_1
        · rw [if_pos c8] at H
          have c8b0 : decide (0 ≤ x7_1) = true := decide_eq_true c8
          clear c8
          replace H := Option.bind_eq_some_iff.mp H
          obtain ⟨⟨t109, t110, t111⟩, A90, H⟩ := H
          replace H : (if t111 = true then (if 0 ≤ ((rd_T35 l1 x7_1).f1) then (if ((rd_T35 l1 x7_1).f1) < (t101.length : Int) then (if 0 ≤ ((rd_T35 l1 x7_1).f0) then (if ((rd_T35 l1 x7_1).f0) < (t101.length : Int) then (if x6_1.length < 2932031007402 then ((some (x6_1 ++ [(⟨rd t101 ((rd_T35 l1 x7_1).f1), rd t101 ((rd_T35 l1 x7_1).f0), t109, (⟨(rd_T35 l1 x7_1).f0, (rd_T35 l1 x7_1).f1⟩ : S35), false⟩ : S37)] : List (S37))).bind fun y114 => (if y114.length < 2932031007402 then (merkhetref14_Of.l0 k1 l0 l1 t101 (y114 ++ [(⟨rd t101 ((rd_T35 l1 x7_1).f0), rd t101 ((rd_T35 l1 x7_1).f1), t110, (⟨(rd_T35 l1 x7_1).f0, (rd_T35 l1 x7_1).f1⟩ : S35), true⟩ : S37)]) (wrap64 (x7_1 + 1))) else (none))) else (none)) else (none)) else (none)) else (none)) else (none)) else (merkhetref14_Of.l0 k1 l0 l1 t101 x6_1 (wrap64 (x7_1 + 1)))) = some r := H
          have A9 := Aside0.mk A90
          clear A90
          by_cases c10 : t111 = true
          · subst c10
            have H1 : (if 0 ≤ ((rd_T35 l1 x7_1).f1) then (if ((rd_T35 l1 x7_1).f1) < (t101.length : Int) then (if 0 ≤ ((rd_T35 l1 x7_1).f0) then (if ((rd_T35 l1 x7_1).f0) < (t101.length : Int) then (if x6_1.length < 2932031007402 then ((some (x6_1 ++ [(⟨rd t101 ((rd_T35 l1 x7_1).f1), rd t101 ((rd_T35 l1 x7_1).f0), t109, (⟨(rd_T35 l1 x7_1).f0, (rd_T35 l1 x7_1).f1⟩ : S35), false⟩ : S37)] : List (S37))).bind fun y114 => (if y114.length < 2932031007402 then (merkhetref14_Of.l0 k1 l0 l1 t101 (y114 ++ [(⟨rd t101 ((rd_T35 l1 x7_1).f0), rd t101 ((rd_T35 l1 x7_1).f1), t110, (⟨(rd_T35 l1 x7_1).f0, (rd_T35 l1 x7_1).f1⟩ : S35), true⟩ : S37)]) (wrap64 (x7_1 + 1))) else (none))) else (none)) else (none)) else (none)) else (none)) else (none)) = some r := by rw [if_pos rfl] at H; exact H
            clear H
            have H := H1
            clear H1
            by_cases c11 : 0 ≤ ((rd_T35 l1 x7_1).f1)
            · rw [if_pos c11] at H
              have c11b0 : decide (0 ≤ ((rd_T35 l1 x7_1).f1)) = true := decide_eq_true c11
              clear c11
              by_cases c12 : ((rd_T35 l1 x7_1).f1) < (t101.length : Int)
              · rw [if_pos c12] at H
                have c12b0 : decide (((rd_T35 l1 x7_1).f1) < (t101.length : Int)) = true := decide_eq_true c12
                clear c12
                by_cases c13 : 0 ≤ ((rd_T35 l1 x7_1).f0)
                · rw [if_pos c13] at H
                  have c13b0 : decide (0 ≤ ((rd_T35 l1 x7_1).f0)) = true := decide_eq_true c13
                  clear c13
                  by_cases c14 : ((rd_T35 l1 x7_1).f0) < (t101.length : Int)
                  · rw [if_pos c14] at H
                    have c14b0 : decide (((rd_T35 l1 x7_1).f0) < (t101.length : Int)) = true := decide_eq_true c14
                    clear c14
                    by_cases c15 : x6_1.length < 2932031007402
                    · rw [if_pos c15] at H
                      have LMc15 := Aside0.mk c15
                      clear c15
                      obtain ⟨y114, hy114⟩ : ∃ y_ : List (S37), y_ = (x6_1 ++ [(⟨rd t101 ((rd_T35 l1 x7_1).f1), rd t101 ((rd_T35 l1 x7_1).f0), t109, (⟨(rd_T35 l1 x7_1).f0, (rd_T35 l1 x7_1).f1⟩ : S35), false⟩ : S37)]) := ⟨_, rfl⟩
                      replace H : (if y114.length < 2932031007402 then (merkhetref14_Of.l0 k1 l0 l1 t101 (y114 ++ [(⟨rd t101 ((rd_T35 l1 x7_1).f0), rd t101 ((rd_T35 l1 x7_1).f1), t110, (⟨(rd_T35 l1 x7_1).f0, (rd_T35 l1 x7_1).f1⟩ : S35), true⟩ : S37)]) (wrap64 (x7_1 + 1))) else (none)) = some r := by first | (rw [hy114]; with_reducible exact H) | (have H2_ := (Option.bind_some _ _).symm.trans H; rw [hy114]; with_reducible exact H2_) | (have H2_ := (Option.bind_some _ _).symm.trans H; with_reducible exact H2_) | with_reducible exact H | (rw [hy114]; exact H) | exact H
                      have Ny114 := Aside0.mk hy114
                      clear hy114
                      by_cases c16 : y114.length < 2932031007402
                      · rw [if_pos c16] at H
                        have LMc16 := Aside0.mk c16
                        clear c16
                        obtain ⟨y119, hy119⟩ : ∃ y_ : List (S37), y_ = (y114 ++ [(⟨rd t101 ((rd_T35 l1 x7_1).f0), rd t101 ((rd_T35 l1 x7_1).f1), t110, (⟨(rd_T35 l1 x7_1).f0, (rd_T35 l1 x7_1).f1⟩ : S35), true⟩ : S37)]) := ⟨_, rfl⟩
                        replace H : (merkhetref14_Of.l0 k1 l0 l1 t101 y119 (wrap64 (x7_1 + 1))) = some r := by first | (rw [hy119]; with_reducible exact H) | (have H2_ := (Option.bind_some _ _).symm.trans H; rw [hy119]; with_reducible exact H2_) | (have H2_ := (Option.bind_some _ _).symm.trans H; with_reducible exact H2_) | with_reducible exact H | (rw [hy119]; exact H) | exact H
                        have Ny119 := Aside0.mk hy119
                        clear hy119
                        have H' := Aside0.mk H
                        clear H
                        have p107 : 0 ≤ (x7_1 : Int) := of_decide_eq_true (by first | (with_reducible assumption) | assumption)
                        have q107 : x7_1 < (l1.length : Int) := of_decide_eq_true (by first | (with_reducible assumption) | assumption)
                        obtain ⟨ad107, e107, hx107_0, hx107_1⟩ := at_T35 HR1.out x7_1 p107 q107
                        cases e107
                        replace hx107_0 := (HB.out.cell (World.block_lt_of_cell? w _ hx107_0)).trans hx107_0
                        replace hx107_1 := (HB.out.cell (World.block_lt_of_cell? w _ hx107_1)).trans hx107_1
                        replace p107 := eq_true p107
                        replace q107 := eq_true q107
                        try go_wp2_with (first | ((with_reducible refine gate_dst (N := 8) rfl ?_); refine box_event ?hg (N := 8) ?hd (cs := #[.int .i64 0, .int .i64 0]) (t := 35) ?hr ?_; (case hd => rfl); (case hg => rfl); (case hr => first | (go_simp; done) | (go_simp; rfl)); intro gb108 hg w17 hbox hb; have n0_ := Aside0.mk (Kd.R_below (by (with_reducible repeat (first | apply Kd.R_alloc | apply Kd.R_drewN | apply Kd.R_drew)); exact HO_5.out) hb); have n1_ := Aside0.mk (Kd.R_below (by (with_reducible repeat (first | apply Kd.R_alloc | apply Kd.R_drewN | apply Kd.R_drew)); exact HO_6.out) hb); have n2_ := Aside0.mk (below_step (by repeat (first | (with_reducible first | exact HB.out | apply below_alloc | apply pw_below_drewN | apply below_drew1) | exact HB.out)) hb); have n3_ := Aside0.mk (hbox); have n4_ := Aside0.mk ((by rw [hg]; exact (below_size (by repeat (first | (with_reducible first | exact HB.out | apply below_alloc | apply pw_below_drewN | apply below_drew1) | exact HB.out))) : w.heap.size ≤ gb108)); have n5_ := Aside0.mk ((by rw [hg]; exact (below_size (by repeat (first | (with_reducible first | exact HB.out | apply below_alloc | apply pw_below_drewN | apply below_drew1) | exact HB.out))) : w.heap.size ≤ gb108)); clear HO_5; clear HO_6; clear HB; have HO_5 := n0_; have HO_6 := n1_; have HB := n2_; have BK108 := n3_; have GW108 := n4_; have GE108 := n5_; clear n0_ n1_ n2_ n3_ n4_ n5_; clear hb hbox hg; have hcz18_0 : w17.cell? ⟨gb108, 0, none⟩ = some (.int .i64 0) := (blk_cell BK108.out 0).trans rfl; have hcz18_1 : w17.cell? ⟨gb108, 1, none⟩ = some (.int .i64 0) := (blk_cell BK108.out 1).trans rfl; have hfz18_0 := blk_frozen BK108.out 0; have hfz18_1 := blk_frozen BK108.out 1) | ((with_reducible refine gate_callee (f := 29) rfl ?_); refine goesL_ (some 28) rfl rfl Try.func29 (by kernel_rfl) rfl #[.slice A0 l0.length c0, .agg #[.int .i64 ((rd_T35 l1 x7_1).f0), .int .i64 ((rd_T35 l1 x7_1).f1)]] rfl (by (try simp only [List.map_toArray, List.map_cons, List.map_nil]); first | done | rfl | (simp only [List.length_drop, List.length_take]; rfl)) ?_; (with_reducible refine (merkhetref12_Gaps.calls _ _ l0 ((rd_T35 l1 x7_1).f0) ((rd_T35 l1 x7_1).f1) t109 t110 true _ ?side1 ?side2 A9.out).mono ?_); (case side1 => exact Kd.C_below HR0.out (by repeat (first | (with_reducible first | exact HB.out | apply below_alloc | apply pw_below_drewN | apply below_drew1 | refine below_set ?_ GE108.out) | exact HB.out))); (case side2 => exact HC0.out); rintro e w19 ⟨rfl, hb⟩; refine ⟨_, rfl, ?_⟩; have n0_ := Aside0.mk (Kd.R_below (by (with_reducible repeat (first | apply Kd.R_alloc | apply Kd.R_drewN | apply Kd.R_drew)); exact (Kd.R_mono (Kd.R_far (p := ⟨gb108, 1, none⟩) (Kd.R_far (p := ⟨gb108, 0, none⟩) (Kd.R_types HO_5.out BK108.out (by decide)) (fun _ hk => hk.2) (.int .i64 ((rd_T35 l1 x7_1).f0))) (fun _ hk => hk.2) (.int .i64 ((rd_T35 l1 x7_1).f1))) (fun _ h_ => h_.1))) hb); have n1_ := Aside0.mk (Kd.R_below (by (with_reducible repeat (first | apply Kd.R_alloc | apply Kd.R_drewN | apply Kd.R_drew)); exact (Kd.R_mono (Kd.R_far (p := ⟨gb108, 1, none⟩) (Kd.R_far (p := ⟨gb108, 0, none⟩) (Kd.R_types HO_6.out BK108.out (by decide)) (fun _ hk => hk.2) (.int .i64 ((rd_T35 l1 x7_1).f0))) (fun _ hk => hk.2) (.int .i64 ((rd_T35 l1 x7_1).f1))) (fun _ h_ => h_.1))) hb); have n2_ := Aside0.mk (blk_below (g := gb108) (o := .cells #[.int .i64 ((rd_T35 l1 x7_1).f0), .int .i64 ((rd_T35 l1 x7_1).f1)] 35 (0, 0)) (by (with_reducible repeat (first | refine blk_drewN ?_ _ | refine blk_drew ?_ | refine blk_alloc ?_ _)); refine blk_put (cs := #[.int .i64 ((rd_T35 l1 x7_1).f0), .int .i64 0]) ?_ 1 _ rfl; (with_reducible repeat (first | refine blk_drewN ?_ _ | refine blk_drew ?_ | refine blk_alloc ?_ _)); refine blk_put (cs := #[.int .i64 0, .int .i64 0]) ?_ 0 _ rfl; (with_reducible repeat (first | refine blk_drewN ?_ _ | refine blk_drew ?_ | refine blk_alloc ?_ _)); exact BK108.out) hb); have n3_ := Aside0.mk (below_step (by repeat (first | (with_reducible first | exact HB.out | apply below_alloc | apply pw_below_drewN | apply below_drew1 | refine below_set ?_ GE108.out) | exact HB.out)) hb); clear HO_5; clear HO_6; clear BK108; clear HB; have HO_5 := n0_; have HO_6 := n1_; have BK108 := n2_; have HB := n3_; clear n0_ n1_ n2_ n3_; (try clear hb); (try clear hb2); (try clear hk); (try clear hi)))
                        have n0_ := Aside0.mk (Kd.R_drew HO_5.out)
                        have n1_ := Aside0.mk (Kd.R_drew HO_6.out)
                        have n2_ := Aside0.mk (blk_drew BK108.out)
                        have n3_ := Aside0.mk (below_drew1 HB.out)
                        clear HO_5
                        clear HO_6
                        clear BK108
                        clear HB
                        have HO_5 := n0_
                        have HO_6 := n1_
                        have BK108 := n2_
                        have HB := n3_
                        clear n0_ n1_ n2_ n3_
                        obtain ⟨Ao21, co21, eo21⟩ := Kd.R_slice HO_5.out
                        (first | subst eo21 | (injection eo21 with f1_ f2_ f3_; have f4_ := f1_.symm; have f5_ := f3_.symm; clear f1_ f2_ f3_; subst f4_; subst f5_))
                        have p112 : 0 ≤ (((rd_T35 l1 x7_1).f1) : Int) := of_decide_eq_true (by first | (with_reducible assumption) | assumption)
                        have q112 : ((rd_T35 l1 x7_1).f1) < (t101.length : Int) := of_decide_eq_true (by first | (with_reducible assumption) | assumption)
                        obtain ⟨ad112, e112, hx112_0⟩ := Kd.at_int (Kd.R_reads' HO_5.out).2.2 ((rd_T35 l1 x7_1).f1) p112 q112
                        cases e112
                        replace p112 := eq_true p112
                        replace q112 := eq_true q112
                        have p113 : 0 ≤ (((rd_T35 l1 x7_1).f0) : Int) := of_decide_eq_true (by first | (with_reducible assumption) | assumption)
                        have q113 : ((rd_T35 l1 x7_1).f0) < (t101.length : Int) := of_decide_eq_true (by first | (with_reducible assumption) | assumption)
                        obtain ⟨ad113, e113, hx113_0⟩ := Kd.at_int (Kd.R_reads' HO_5.out).2.2 ((rd_T35 l1 x7_1).f0) p113 q113
                        obtain rfl : ad112 = ad113 := (by injection e113)
                        replace p113 := eq_true p113
                        replace q113 := eq_true q113
                        refine start_ (n := 17) (S := fun w' => w'.cell? ⟨gb108, 0, none⟩ = some (.int .i64 ((rd_T35 l1 x7_1).f0)) ∧ w'.cell? ⟨gb108, 1, none⟩ = some (.int .i64 ((rd_T35 l1 x7_1).f1)) ∧ w'.cell? (ad112.add (((rd_T35 l1 x7_1).f1)).toNat) = some (.int .i64 (rd t101 ((rd_T35 l1 x7_1).f1))) ∧ w'.cell? (ad112.add (((rd_T35 l1 x7_1).f0)).toNat) = some (.int .i64 (rd t101 ((rd_T35 l1 x7_1).f0)))) (ds := [14, 15]) #[false, false, false, false, false, false, false, false, false, false, false, false, false, false, false, false, false] (by kernel_rfl) rfl rfl ⟨(blk_cell BK108.out 0).trans rfl, (blk_cell BK108.out 1).trans rfl, hx112_0, hx113_0⟩ (fun hHeld => ?_); refine with_tabW merkhetref14_Of.tab9 merkhetref14_Of.bits9 (fun HT_ HW_ => ?_)
                        generalize w19.drew = w20 at HO_5 HO_6 BK108 HB hx112_0 hx113_0 hHeld ⊢
                        refine pure_ (i := 0) (N := some 33) (v := ?_) (a' := ?_) #[true, false, false, false, false, false, false, false, false, false, false, false, false, false, false, false, false] rfl rfl (any_of HT_.out (by kernel_rfl)) (fun _ _ _ h => h) (Or.inl ⟨by rfl, ?_⟩) ?_ ?_
                        rotate_left
                        · intro w'
                          go_simp
                          with_reducible rfl
                        rotate_left
                        · simp only [Act.put, List.setIfInBounds_toArray, List.set_cons_zero, List.set_cons_succ, i64_w, i32_w]
                          rfl
                        refine pure_ (i := 1) (N := some 34) (v := ?_) (a' := ?_) #[true, true, false, false, false, false, false, false, false, false, false, false, false, false, false, false, false] rfl rfl (any_of HT_.out (by kernel_rfl)) (fun _ _ _ h => h) (Or.inl ⟨by rfl, ?_⟩) ?_ ?_
                        rotate_left
                        · intro w'
                          go_simp
                          with_reducible rfl
                        rotate_left
                        · simp only [Act.put, List.setIfInBounds_toArray, List.set_cons_zero, List.set_cons_succ, i64_w, i32_w]
                          rfl
                        refine pure_ (i := 2) (N := some 35) (v := ?_) (a' := ?_) #[true, true, true, false, false, false, false, false, false, false, false, false, false, false, false, false, false] rfl rfl (any_of HT_.out (by kernel_rfl)) (fun _ _ _ h => h) (Or.inl ⟨by rfl, ?_⟩) ?_ ?_
                        rotate_left
                        · intro w'
                          go_simp
                          with_reducible rfl
                        rotate_left
                        · simp only [Act.put, List.setIfInBounds_toArray, List.set_cons_zero, List.set_cons_succ, i64_w, i32_w]
                          rfl
                        refine pure_ (i := 6) (N := some 39) (v := ?_) (a' := ?_) #[true, true, true, false, false, false, true, false, false, false, false, false, false, false, false, false, false] rfl rfl (any_of HT_.out (by kernel_rfl)) (fun _ _ _ h => h) (Or.inl ⟨by rfl, ?_⟩) ?_ ?_
                        rotate_left
                        · intro w'
                          go_simp
                          with_reducible rfl
                        rotate_left
                        · simp only [Act.put, List.setIfInBounds_toArray, List.set_cons_zero, List.set_cons_succ, i64_w, i32_w]
                          rfl
                        refine pure_ (i := 7) (N := some 40) (v := ?_) (a' := ?_) #[true, true, true, false, false, false, true, true, false, false, false, false, false, false, false, false, false] rfl rfl (any_of HT_.out (by kernel_rfl)) (fun _ _ _ h => h) (Or.inl ⟨by rfl, ?_⟩) ?_ ?_
                        rotate_left
                        · intro w'
                          go_simp
                          with_reducible rfl
                        rotate_left
                        · simp only [Act.put, List.setIfInBounds_toArray, List.set_cons_zero, List.set_cons_succ, i64_w, i32_w]
                          rfl
                        refine pure_ (i := 11) (N := some 44) (v := ?_) (a' := ?_) #[true, true, true, false, false, false, true, true, false, false, false, true, false, false, false, false, false] rfl rfl (any_of HT_.out (by kernel_rfl)) (fun _ _ _ h => h) (Or.inl ⟨by rfl, ?_⟩) ?_ ?_
                        rotate_left
                        · intro w'
                          go_simp
                          with_reducible rfl
                        rotate_left
                        · simp only [Act.put, List.setIfInBounds_toArray, List.set_cons_zero, List.set_cons_succ, i64_w, i32_w]
                          rfl
                        refine take_ (i := 3) (N := some 36) (v := ?_) (a' := ?_) #[true, true, true, true, false, false, true, true, false, false, false, true, false, false, false, false, false] rfl rfl (take_ofW HT_.out HW_.out (by kernel_rfl)) (fun _ _ _ h => h) (Or.inl ⟨by rfl, ?_⟩) hHeld ?_ ?_
                        rotate_left
                        · rintro w' ⟨s0, s1, s2, s3⟩
                          go_simp
                          with_reducible rfl
                        rotate_left
                        · simp only [Act.put, List.setIfInBounds_toArray, List.set_cons_zero, List.set_cons_succ, i64_w, i32_w]
                          rfl
                        refine pure_ (i := 4) (N := some 37) (v := ?_) (a' := ?_) #[true, true, true, true, true, false, true, true, false, false, false, true, false, false, false, false, false] rfl rfl (any_of HT_.out (by kernel_rfl)) (fun _ _ _ h => h) (Or.inl ⟨by rfl, ?_⟩) ?_ ?_
                        rotate_left
                        · intro w'
                          go_simp
                          with_reducible rfl
                        rotate_left
                        · simp only [Act.put, List.setIfInBounds_toArray, List.set_cons_zero, List.set_cons_succ, i64_w, i32_w]
                          rfl
                        refine take_ (i := 5) (N := some 38) (v := ?_) (a' := ?_) #[true, true, true, true, true, true, true, true, false, false, false, true, false, false, false, false, false] rfl rfl (take_ofW HT_.out HW_.out (by kernel_rfl)) (fun _ _ _ h => h) (Or.inl ⟨by rfl, ?_⟩) hHeld ?_ ?_
                        rotate_left
                        · rintro w' ⟨s0, s1, s2, s3⟩
                          go_simp
                          with_reducible rfl
                        rotate_left
                        · simp only [Act.put, List.setIfInBounds_toArray, List.set_cons_zero, List.set_cons_succ, i64_w, i32_w]
                          rfl
                        refine take_ (i := 8) (N := some 41) (v := ?_) (a' := ?_) #[true, true, true, true, true, true, true, true, true, false, false, true, false, false, false, false, false] rfl rfl (take_ofW HT_.out HW_.out (by kernel_rfl)) (fun _ _ _ h => h) (Or.inl ⟨by rfl, ?_⟩) hHeld ?_ ?_
                        rotate_left
                        · rintro w' ⟨s0, s1, s2, s3⟩
                          go_simp
                          with_reducible rfl
                        rotate_left
                        · simp only [Act.put, List.setIfInBounds_toArray, List.set_cons_zero, List.set_cons_succ, i64_w, i32_w]
                          rfl
                        refine pure_ (i := 9) (N := some 42) (v := ?_) (a' := ?_) #[true, true, true, true, true, true, true, true, true, true, false, true, false, false, false, false, false] rfl rfl (any_of HT_.out (by kernel_rfl)) (fun _ _ _ h => h) (Or.inl ⟨by rfl, ?_⟩) ?_ ?_
                        rotate_left
                        · intro w'
                          go_simp
                          with_reducible rfl
                        rotate_left
                        · simp only [Act.put, List.setIfInBounds_toArray, List.set_cons_zero, List.set_cons_succ, i64_w, i32_w]
                          rfl
                        refine take_ (i := 10) (N := some 43) (v := ?_) (a' := ?_) #[true, true, true, true, true, true, true, true, true, true, true, true, false, false, false, false, false] rfl rfl (take_ofW HT_.out HW_.out (by kernel_rfl)) (fun _ _ _ h => h) (Or.inl ⟨by rfl, ?_⟩) hHeld ?_ ?_
                        rotate_left
                        · rintro w' ⟨s0, s1, s2, s3⟩
                          go_simp
                          with_reducible rfl
                        rotate_left
                        · simp only [Act.put, List.setIfInBounds_toArray, List.set_cons_zero, List.set_cons_succ, i64_w, i32_w]
                          rfl
                        refine take_ (i := 12) (N := some 45) (v := ?_) (a' := ?_) #[true, true, true, true, true, true, true, true, true, true, true, true, true, false, false, false, false] rfl rfl (take_ofW HT_.out HW_.out (by kernel_rfl)) (fun _ _ _ h => h) (Or.inl ⟨by rfl, ?_⟩) hHeld ?_ ?_
                        rotate_left
                        · rintro w' ⟨s0, s1, s2, s3⟩
                          go_simp
                          with_reducible rfl
                        rotate_left
                        · simp only [Act.put, List.setIfInBounds_toArray, List.set_cons_zero, List.set_cons_succ, i64_w, i32_w]
                          rfl
                        refine pure_ (i := 13) (N := some 46) (v := ?_) (a' := ?_) #[true, true, true, true, true, true, true, true, true, true, true, true, true, true, false, false, false] rfl rfl (any_of HT_.out (by kernel_rfl)) (fun _ _ _ h => h) (Or.inl ⟨by rfl, ?_⟩) ?_ ?_
                        rotate_left
                        · intro w'
                          go_simp
                          with_reducible rfl
                        rotate_left
                        · simp only [Act.put, List.setIfInBounds_toArray, List.set_cons_zero, List.set_cons_succ, i64_w, i32_w]
                          rfl
                        refine last_ (i := 14) (N := some 47) #[true, true, true, true, true, true, true, true, true, true, true, true, true, true, true, false, false] rfl rfl (one_of HT_.out (by kernel_rfl)) (by decide) (fun K hK => ?_)
                        refine value_ (w1 := ?_) (v := ?_) (by rfl) rfl ?_ ?_
                        rotate_left 2
                        · go_simp
                          constructor
                          · rfl
                          · rfl
                        refine hK.out _ _ ?_
                        clear hK K
                        refine norm_ (a' := ?_) ?_ ?_
                        rotate_left
                        · show Act.put _ (some 47) _ = _
                          simp only [Act.put, List.setIfInBounds_toArray, List.set_cons_zero, List.set_cons_succ, i64_w, i32_w]
                          rfl
                        refine last_ (i := 15) (N := some 48) #[true, true, true, true, true, true, true, true, true, true, true, true, true, true, true, true, false] rfl rfl (one_of HT_.out (by kernel_rfl)) (by decide) (fun K hK => ?_)
                        refine Kd.R_append_step k37 (w0 := w) w.heap.size (by rfl) (.tmp 33) (.tmp 47) 30 37 (.agg #[(.int .i64 0), (.int .i64 0), (.int .i64 0), (.int .i64 0), (.int .i64 0), (.bool false)]) 48 rfl Try.underlying30 info37 rfl (by decide) (by omega) u6 x6_1 (⟨rd t101 ((rd_T35 l1 x7_1).f1), rd t101 ((rd_T35 l1 x7_1).f0), t109, (⟨(rd_T35 l1 x7_1).f0, (rd_T35 l1 x7_1).f1⟩ : S35), false⟩ : S37) [.int .i64 (rd t101 ((rd_T35 l1 x7_1).f1)), .int .i64 (rd t101 ((rd_T35 l1 x7_1).f0)), .int .i64 t109, .int .i64 ((rd_T35 l1 x7_1).f0), .int .i64 ((rd_T35 l1 x7_1).f1), .bool false] (fun _ => True) (fun _ => False) rfl rfl ?aP (fun _ hk => hk.elim) ?aF ?aO ?aB ?aS ?aL ?_
                        (case aP => exact k37_mkM _ _ _ (⟨rd t101 ((rd_T35 l1 x7_1).f1), rd t101 ((rd_T35 l1 x7_1).f0), t109, (⟨(rd_T35 l1 x7_1).f0, (rd_T35 l1 x7_1).f1⟩ : S35), false⟩ : S37))
                        (case aB => exact (by repeat (first | (with_reducible first | exact HB.out | apply below_alloc | apply pw_below_drewN | apply below_drew1 | refine below_set ?_ GE108.out) | exact HB.out)))
                        (case aF => exact (fun _ _ => trivial))
                        (case aO => exact (by (with_reducible repeat (first | apply Kd.R_alloc | apply Kd.R_drewN | apply Kd.R_drew)); exact HO_6.out))
                        (case aS => exact (below_size (by repeat (first | (with_reducible first | exact HB.out | apply below_alloc | apply pw_below_drewN | apply below_drew1 | refine below_set ?_ GE108.out) | exact HB.out))))
                        (case aL => have := LMc15.out; omega)
                        intro v115 w22 ho hb hg hat
                        rw [← Ny114.out] at ho
                        have n0_ := Aside0.mk (Kd.R_over' (by (with_reducible repeat (first | apply Kd.R_alloc | apply Kd.R_drewN | apply Kd.R_drew)); exact HO_5.out) (Kd.R_typed (by (with_reducible repeat (first | apply Kd.R_alloc | apply Kd.R_drewN | apply Kd.R_drew)); exact HO_6.out)) (by decide) hg)
                        have n1_ := Aside0.mk (blk_grown (g := gb108) (o := .cells #[.int .i64 ((rd_T35 l1 x7_1).f0), .int .i64 ((rd_T35 l1 x7_1).f1)] 35 (0, 0)) (by (with_reducible repeat (first | refine blk_drewN ?_ _ | refine blk_drew ?_ | refine blk_alloc ?_ _)); exact BK108.out) hg (Kd.R_ne HO_6.out BK108.out (by decide)))
                        have n2_ := Aside0.mk (hb)
                        have n3_ := Aside0.mk (ho)
                        clear HO_5
                        clear BK108
                        clear HB
                        clear HO_6
                        have HO_5 := n0_
                        have BK108 := n1_
                        have HB := n2_
                        have HO116 := n3_
                        clear n0_ n1_ n2_ n3_
                        clear ho hb hg hat
                        refine hK.out _ _ ?_
                        clear hK K
                        refine norm_ (a' := ?_) ?_ ?_
                        rotate_left
                        · show Act.put _ (some 48) _ = _
                          simp only [Act.put, List.setIfInBounds_toArray, List.set_cons_zero, List.set_cons_succ, i64_w, i32_w]
                          rfl
                        refine pure_ (i := 16) (N := some 6) (v := ?_) (a' := ?_) #[true, true, true, true, true, true, true, true, true, true, true, true, true, true, true, true, true] rfl rfl (any_of HT_.out (by kernel_rfl)) (fun _ _ _ h => h) (Or.inl ⟨by rfl, ?_⟩) ?_ ?_
                        rotate_left
                        · intro w'
                          go_simp
                          with_reducible rfl
                        rotate_left
                        · simp only [Act.put, List.setIfInBounds_toArray, List.set_cons_zero, List.set_cons_succ, i64_w, i32_w]
                          rfl
                        refine done_ (done_of HT_.out (by kernel_rfl)) ?_
                        try go_wp2
                        have n0_ := Aside0.mk (Kd.R_drew HO_5.out)
                        have n1_ := Aside0.mk (Kd.R_drew HO116.out)
                        have n2_ := Aside0.mk (blk_drew BK108.out)
                        have n3_ := Aside0.mk (below_drew1 HB.out)
                        clear HO_5
                        clear HO116
                        clear BK108
                        clear HB
                        have HO_5 := n0_
                        have HO116 := n1_
                        have BK108 := n2_
                        have HB := n3_
                        clear n0_ n1_ n2_ n3_
                        have p117 : 0 ≤ (((rd_T35 l1 x7_1).f0) : Int) := of_decide_eq_true (by first | (with_reducible assumption) | assumption)
                        have q117 : ((rd_T35 l1 x7_1).f0) < (t101.length : Int) := of_decide_eq_true (by first | (with_reducible assumption) | assumption)
                        obtain ⟨ad117, e117, hx117_0⟩ := Kd.at_int (Kd.R_reads' HO_5.out).2.2 ((rd_T35 l1 x7_1).f0) p117 q117
                        obtain rfl : ad112 = ad117 := (by injection e117)
                        replace p117 := eq_true p117
                        replace q117 := eq_true q117
                        have p118 : 0 ≤ (((rd_T35 l1 x7_1).f1) : Int) := of_decide_eq_true (by first | (with_reducible assumption) | assumption)
                        have q118 : ((rd_T35 l1 x7_1).f1) < (t101.length : Int) := of_decide_eq_true (by first | (with_reducible assumption) | assumption)
                        obtain ⟨ad118, e118, hx118_0⟩ := Kd.at_int (Kd.R_reads' HO_5.out).2.2 ((rd_T35 l1 x7_1).f1) p118 q118
                        obtain rfl : ad112 = ad118 := (by injection e118)
                        replace p118 := eq_true p118
                        replace q118 := eq_true q118
                        refine start_ (n := 17) (S := fun w' => w'.cell? ⟨gb108, 0, none⟩ = some (.int .i64 ((rd_T35 l1 x7_1).f0)) ∧ w'.cell? ⟨gb108, 1, none⟩ = some (.int .i64 ((rd_T35 l1 x7_1).f1)) ∧ w'.cell? (ad112.add (((rd_T35 l1 x7_1).f0)).toNat) = some (.int .i64 (rd t101 ((rd_T35 l1 x7_1).f0))) ∧ w'.cell? (ad112.add (((rd_T35 l1 x7_1).f1)).toNat) = some (.int .i64 (rd t101 ((rd_T35 l1 x7_1).f1)))) (ds := [14, 15]) #[false, false, false, false, false, false, false, false, false, false, false, false, false, false, false, false, false] (by kernel_rfl) rfl rfl ⟨(blk_cell BK108.out 0).trans rfl, (blk_cell BK108.out 1).trans rfl, hx117_0, hx118_0⟩ (fun hHeld => ?_); refine with_tabW merkhetref14_Of.tab10 merkhetref14_Of.bits10 (fun HT_ HW_ => ?_)
                        generalize w22.drew = w23 at HO_5 HO116 BK108 HB hx117_0 hx118_0 hHeld ⊢
                        refine pure_ (i := 0) (N := some 49) (v := ?_) (a' := ?_) #[true, false, false, false, false, false, false, false, false, false, false, false, false, false, false, false, false] rfl rfl (any_of HT_.out (by kernel_rfl)) (fun _ _ _ h => h) (Or.inl ⟨by rfl, ?_⟩) ?_ ?_
                        rotate_left
                        · intro w'
                          go_simp
                          with_reducible rfl
                        rotate_left
                        · simp only [Act.put, List.setIfInBounds_toArray, List.set_cons_zero, List.set_cons_succ, i64_w, i32_w]
                          rfl
                        refine pure_ (i := 1) (N := some 50) (v := ?_) (a' := ?_) #[true, true, false, false, false, false, false, false, false, false, false, false, false, false, false, false, false] rfl rfl (any_of HT_.out (by kernel_rfl)) (fun _ _ _ h => h) (Or.inl ⟨by rfl, ?_⟩) ?_ ?_
                        rotate_left
                        · intro w'
                          go_simp
                          with_reducible rfl
                        rotate_left
                        · simp only [Act.put, List.setIfInBounds_toArray, List.set_cons_zero, List.set_cons_succ, i64_w, i32_w]
                          rfl
                        refine pure_ (i := 2) (N := some 51) (v := ?_) (a' := ?_) #[true, true, true, false, false, false, false, false, false, false, false, false, false, false, false, false, false] rfl rfl (any_of HT_.out (by kernel_rfl)) (fun _ _ _ h => h) (Or.inl ⟨by rfl, ?_⟩) ?_ ?_
                        rotate_left
                        · intro w'
                          go_simp
                          with_reducible rfl
                        rotate_left
                        · simp only [Act.put, List.setIfInBounds_toArray, List.set_cons_zero, List.set_cons_succ, i64_w, i32_w]
                          rfl
                        refine pure_ (i := 6) (N := some 55) (v := ?_) (a' := ?_) #[true, true, true, false, false, false, true, false, false, false, false, false, false, false, false, false, false] rfl rfl (any_of HT_.out (by kernel_rfl)) (fun _ _ _ h => h) (Or.inl ⟨by rfl, ?_⟩) ?_ ?_
                        rotate_left
                        · intro w'
                          go_simp
                          with_reducible rfl
                        rotate_left
                        · simp only [Act.put, List.setIfInBounds_toArray, List.set_cons_zero, List.set_cons_succ, i64_w, i32_w]
                          rfl
                        refine pure_ (i := 7) (N := some 56) (v := ?_) (a' := ?_) #[true, true, true, false, false, false, true, true, false, false, false, false, false, false, false, false, false] rfl rfl (any_of HT_.out (by kernel_rfl)) (fun _ _ _ h => h) (Or.inl ⟨by rfl, ?_⟩) ?_ ?_
                        rotate_left
                        · intro w'
                          go_simp
                          with_reducible rfl
                        rotate_left
                        · simp only [Act.put, List.setIfInBounds_toArray, List.set_cons_zero, List.set_cons_succ, i64_w, i32_w]
                          rfl
                        refine pure_ (i := 11) (N := some 60) (v := ?_) (a' := ?_) #[true, true, true, false, false, false, true, true, false, false, false, true, false, false, false, false, false] rfl rfl (any_of HT_.out (by kernel_rfl)) (fun _ _ _ h => h) (Or.inl ⟨by rfl, ?_⟩) ?_ ?_
                        rotate_left
                        · intro w'
                          go_simp
                          with_reducible rfl
                        rotate_left
                        · simp only [Act.put, List.setIfInBounds_toArray, List.set_cons_zero, List.set_cons_succ, i64_w, i32_w]
                          rfl
                        refine take_ (i := 3) (N := some 52) (v := ?_) (a' := ?_) #[true, true, true, true, false, false, true, true, false, false, false, true, false, false, false, false, false] rfl rfl (take_ofW HT_.out HW_.out (by kernel_rfl)) (fun _ _ _ h => h) (Or.inl ⟨by rfl, ?_⟩) hHeld ?_ ?_
                        rotate_left
                        · rintro w' ⟨s0, s1, s2, s3⟩
                          go_simp
                          with_reducible rfl
                        rotate_left
                        · simp only [Act.put, List.setIfInBounds_toArray, List.set_cons_zero, List.set_cons_succ, i64_w, i32_w]
                          rfl
                        refine pure_ (i := 4) (N := some 53) (v := ?_) (a' := ?_) #[true, true, true, true, true, false, true, true, false, false, false, true, false, false, false, false, false] rfl rfl (any_of HT_.out (by kernel_rfl)) (fun _ _ _ h => h) (Or.inl ⟨by rfl, ?_⟩) ?_ ?_
                        rotate_left
                        · intro w'
                          go_simp
                          with_reducible rfl
                        rotate_left
                        · simp only [Act.put, List.setIfInBounds_toArray, List.set_cons_zero, List.set_cons_succ, i64_w, i32_w]
                          rfl
                        refine take_ (i := 5) (N := some 54) (v := ?_) (a' := ?_) #[true, true, true, true, true, true, true, true, false, false, false, true, false, false, false, false, false] rfl rfl (take_ofW HT_.out HW_.out (by kernel_rfl)) (fun _ _ _ h => h) (Or.inl ⟨by rfl, ?_⟩) hHeld ?_ ?_
                        rotate_left
                        · rintro w' ⟨s0, s1, s2, s3⟩
                          go_simp
                          with_reducible rfl
                        rotate_left
                        · simp only [Act.put, List.setIfInBounds_toArray, List.set_cons_zero, List.set_cons_succ, i64_w, i32_w]
                          rfl
                        refine take_ (i := 8) (N := some 57) (v := ?_) (a' := ?_) #[true, true, true, true, true, true, true, true, true, false, false, true, false, false, false, false, false] rfl rfl (take_ofW HT_.out HW_.out (by kernel_rfl)) (fun _ _ _ h => h) (Or.inl ⟨by rfl, ?_⟩) hHeld ?_ ?_
                        rotate_left
                        · rintro w' ⟨s0, s1, s2, s3⟩
                          go_simp
                          with_reducible rfl
                        rotate_left
                        · simp only [Act.put, List.setIfInBounds_toArray, List.set_cons_zero, List.set_cons_succ, i64_w, i32_w]
                          rfl
                        refine pure_ (i := 9) (N := some 58) (v := ?_) (a' := ?_) #[true, true, true, true, true, true, true, true, true, true, false, true, false, false, false, false, false] rfl rfl (any_of HT_.out (by kernel_rfl)) (fun _ _ _ h => h) (Or.inl ⟨by rfl, ?_⟩) ?_ ?_
                        rotate_left
                        · intro w'
                          go_simp
                          with_reducible rfl
                        rotate_left
                        · simp only [Act.put, List.setIfInBounds_toArray, List.set_cons_zero, List.set_cons_succ, i64_w, i32_w]
                          rfl
                        refine take_ (i := 10) (N := some 59) (v := ?_) (a' := ?_) #[true, true, true, true, true, true, true, true, true, true, true, true, false, false, false, false, false] rfl rfl (take_ofW HT_.out HW_.out (by kernel_rfl)) (fun _ _ _ h => h) (Or.inl ⟨by rfl, ?_⟩) hHeld ?_ ?_
                        rotate_left
                        · rintro w' ⟨s0, s1, s2, s3⟩
                          go_simp
                          with_reducible rfl
                        rotate_left
                        · simp only [Act.put, List.setIfInBounds_toArray, List.set_cons_zero, List.set_cons_succ, i64_w, i32_w]
                          rfl
                        refine take_ (i := 12) (N := some 61) (v := ?_) (a' := ?_) #[true, true, true, true, true, true, true, true, true, true, true, true, true, false, false, false, false] rfl rfl (take_ofW HT_.out HW_.out (by kernel_rfl)) (fun _ _ _ h => h) (Or.inl ⟨by rfl, ?_⟩) hHeld ?_ ?_
                        rotate_left
                        · rintro w' ⟨s0, s1, s2, s3⟩
                          go_simp
                          with_reducible rfl
                        rotate_left
                        · simp only [Act.put, List.setIfInBounds_toArray, List.set_cons_zero, List.set_cons_succ, i64_w, i32_w]
                          rfl
                        refine pure_ (i := 13) (N := some 62) (v := ?_) (a' := ?_) #[true, true, true, true, true, true, true, true, true, true, true, true, true, true, false, false, false] rfl rfl (any_of HT_.out (by kernel_rfl)) (fun _ _ _ h => h) (Or.inl ⟨by rfl, ?_⟩) ?_ ?_
                        rotate_left
                        · intro w'
                          go_simp
                          with_reducible rfl
                        rotate_left
                        · simp only [Act.put, List.setIfInBounds_toArray, List.set_cons_zero, List.set_cons_succ, i64_w, i32_w]
                          rfl
                        refine last_ (i := 14) (N := some 63) #[true, true, true, true, true, true, true, true, true, true, true, true, true, true, true, false, false] rfl rfl (one_of HT_.out (by kernel_rfl)) (by decide) (fun K hK => ?_)
                        refine value_ (w1 := ?_) (v := ?_) (by rfl) rfl ?_ ?_
                        rotate_left 2
                        · go_simp
                          constructor
                          · rfl
                          · rfl
                        refine hK.out _ _ ?_
                        clear hK K
                        refine norm_ (a' := ?_) ?_ ?_
                        rotate_left
                        · show Act.put _ (some 63) _ = _
                          simp only [Act.put, List.setIfInBounds_toArray, List.set_cons_zero, List.set_cons_succ, i64_w, i32_w]
                          rfl
                        refine last_ (i := 15) (N := some 64) #[true, true, true, true, true, true, true, true, true, true, true, true, true, true, true, true, false] rfl rfl (one_of HT_.out (by kernel_rfl)) (by decide) (fun K hK => ?_)
                        refine Kd.R_append_step k37 (w0 := w) w.heap.size (by rfl) (.tmp 49) (.tmp 63) 30 37 (.agg #[(.int .i64 0), (.int .i64 0), (.int .i64 0), (.int .i64 0), (.int .i64 0), (.bool false)]) 48 rfl Try.underlying30 info37 rfl (by decide) (by omega) v115 y114 (⟨rd t101 ((rd_T35 l1 x7_1).f0), rd t101 ((rd_T35 l1 x7_1).f1), t110, (⟨(rd_T35 l1 x7_1).f0, (rd_T35 l1 x7_1).f1⟩ : S35), true⟩ : S37) [.int .i64 (rd t101 ((rd_T35 l1 x7_1).f0)), .int .i64 (rd t101 ((rd_T35 l1 x7_1).f1)), .int .i64 t110, .int .i64 ((rd_T35 l1 x7_1).f0), .int .i64 ((rd_T35 l1 x7_1).f1), .bool true] (fun _ => True) (fun _ => False) rfl rfl ?aP (fun _ hk => hk.elim) ?aF ?aO ?aB ?aS ?aL ?_
                        (case aP => exact k37_mkM _ _ _ (⟨rd t101 ((rd_T35 l1 x7_1).f0), rd t101 ((rd_T35 l1 x7_1).f1), t110, (⟨(rd_T35 l1 x7_1).f0, (rd_T35 l1 x7_1).f1⟩ : S35), true⟩ : S37))
                        (case aB => exact (by repeat (first | (with_reducible first | exact HB.out | apply below_alloc | apply pw_below_drewN | apply below_drew1 | refine below_set ?_ GE108.out) | exact HB.out)))
                        (case aF => exact (fun _ _ => trivial))
                        (case aO => exact (by (with_reducible repeat (first | apply Kd.R_alloc | apply Kd.R_drewN | apply Kd.R_drew)); exact HO116.out))
                        (case aS => exact (below_size (by repeat (first | (with_reducible first | exact HB.out | apply below_alloc | apply pw_below_drewN | apply below_drew1 | refine below_set ?_ GE108.out) | exact HB.out))))
                        (case aL => have := LMc16.out; omega)
                        intro v120 w24 ho hb hg hat
                        rw [← Ny119.out] at ho
                        have n0_ := Aside0.mk (Kd.R_over' (by (with_reducible repeat (first | apply Kd.R_alloc | apply Kd.R_drewN | apply Kd.R_drew)); exact HO_5.out) (Kd.R_typed (by (with_reducible repeat (first | apply Kd.R_alloc | apply Kd.R_drewN | apply Kd.R_drew)); exact HO116.out)) (by decide) hg)
                        have n1_ := Aside0.mk (blk_grown (g := gb108) (o := .cells #[.int .i64 ((rd_T35 l1 x7_1).f0), .int .i64 ((rd_T35 l1 x7_1).f1)] 35 (0, 0)) (by (with_reducible repeat (first | refine blk_drewN ?_ _ | refine blk_drew ?_ | refine blk_alloc ?_ _)); exact BK108.out) hg (Kd.R_ne HO116.out BK108.out (by decide)))
                        have n2_ := Aside0.mk (hb)
                        have n3_ := Aside0.mk (ho)
                        clear HO_5
                        clear BK108
                        clear HB
                        clear HO116
                        have HO_5 := n0_
                        have BK108 := n1_
                        have HB := n2_
                        have HO121 := n3_
                        clear n0_ n1_ n2_ n3_
                        clear ho hb hg hat
                        refine hK.out _ _ ?_
                        clear hK K
                        refine norm_ (a' := ?_) ?_ ?_
                        rotate_left
                        · show Act.put _ (some 64) _ = _
                          simp only [Act.put, List.setIfInBounds_toArray, List.set_cons_zero, List.set_cons_succ, i64_w, i32_w]
                          rfl
                        refine pure_ (i := 16) (N := some 6) (v := ?_) (a' := ?_) #[true, true, true, true, true, true, true, true, true, true, true, true, true, true, true, true, true] rfl rfl (any_of HT_.out (by kernel_rfl)) (fun _ _ _ h => h) (Or.inl ⟨by rfl, ?_⟩) ?_ ?_
                        rotate_left
                        · intro w'
                          go_simp
                          with_reducible rfl
                        rotate_left
                        · simp only [Act.put, List.setIfInBounds_toArray, List.set_cons_zero, List.set_cons_succ, i64_w, i32_w]
                          rfl
                        refine done_ (done_of HT_.out (by kernel_rfl)) ?_
                        try go_wp2
                        go_roundg k1
                        case measure => have := HK1.out; omega
                        case rel => exact ⟨(y119), (wrap64 (x7_1 + 1)), (by first | rfl | (simp; done) | (simp [*]; done)), H', ⟨by have := HK1.out; omega⟩, ⟨by (with_reducible repeat (first | apply Kd.R_alloc | apply Kd.R_drewN | apply Kd.R_drew)); exact HO_5.out⟩, ⟨by (with_reducible repeat (first | apply Kd.R_alloc | apply Kd.R_drewN | apply Kd.R_drew)); exact HO121.out⟩, ⟨by repeat (first | (with_reducible first | exact HB.out | apply below_alloc | apply pw_below_drewN | apply below_drew1 | refine below_set ?_ GE108.out) | exact HB.out)⟩⟩
                      · rw [if_neg c16] at H
                        exact absurd H (by simp)
                    · rw [if_neg c15] at H
                      exact absurd H (by simp)
                  · rw [if_neg c14] at H
                    exact absurd H (by simp)
                · rw [if_neg c13] at H
                  exact absurd H (by simp)
              · rw [if_neg c12] at H
                exact absurd H (by simp)
            · rw [if_neg c11] at H
              exact absurd H (by simp)
          · replace c10 := Bool.eq_false_iff.mpr c10
            subst c10
            have H1 : (merkhetref14_Of.l0 k1 l0 l1 t101 x6_1 (wrap64 (x7_1 + 1))) = some r := by rw [if_neg (show ¬ (false = true) by decide)] at H; exact H
            clear H
            have H := H1
            clear H1
            have H' := Aside0.mk H
            clear H
            have p107 : 0 ≤ (x7_1 : Int) := of_decide_eq_true (by first | (with_reducible assumption) | assumption)
            have q107 : x7_1 < (l1.length : Int) := of_decide_eq_true (by first | (with_reducible assumption) | assumption)
            obtain ⟨ad107, e107, hx107_0, hx107_1⟩ := at_T35 HR1.out x7_1 p107 q107
            cases e107
            replace hx107_0 := (HB.out.cell (World.block_lt_of_cell? w _ hx107_0)).trans hx107_0
            replace hx107_1 := (HB.out.cell (World.block_lt_of_cell? w _ hx107_1)).trans hx107_1
            replace p107 := eq_true p107
            replace q107 := eq_true q107
            go_wp2_with (first | ((with_reducible refine gate_dst (N := 8) rfl ?_); refine box_event ?hg (N := 8) ?hd (cs := #[.int .i64 0, .int .i64 0]) (t := 35) ?hr ?_; (case hd => rfl); (case hg => rfl); (case hr => first | (go_simp; done) | (go_simp; rfl)); intro gb108 hg w25 hbox hb; have n0_ := Aside0.mk (Kd.R_below (by (with_reducible repeat (first | apply Kd.R_alloc | apply Kd.R_drewN | apply Kd.R_drew)); exact HO_5.out) hb); have n1_ := Aside0.mk (Kd.R_below (by (with_reducible repeat (first | apply Kd.R_alloc | apply Kd.R_drewN | apply Kd.R_drew)); exact HO_6.out) hb); have n2_ := Aside0.mk (below_step (by repeat (first | (with_reducible first | exact HB.out | apply below_alloc | apply pw_below_drewN | apply below_drew1) | exact HB.out)) hb); have n3_ := Aside0.mk (hbox); have n4_ := Aside0.mk ((by rw [hg]; exact (below_size (by repeat (first | (with_reducible first | exact HB.out | apply below_alloc | apply pw_below_drewN | apply below_drew1) | exact HB.out))) : w.heap.size ≤ gb108)); have n5_ := Aside0.mk ((by rw [hg]; exact (below_size (by repeat (first | (with_reducible first | exact HB.out | apply below_alloc | apply pw_below_drewN | apply below_drew1) | exact HB.out))) : w.heap.size ≤ gb108)); clear HO_5; clear HO_6; clear HB; have HO_5 := n0_; have HO_6 := n1_; have HB := n2_; have BK108 := n3_; have GW108 := n4_; have GE108 := n5_; clear n0_ n1_ n2_ n3_ n4_ n5_; clear hb hbox hg; have hcz26_0 : w25.cell? ⟨gb108, 0, none⟩ = some (.int .i64 0) := (blk_cell BK108.out 0).trans rfl; have hcz26_1 : w25.cell? ⟨gb108, 1, none⟩ = some (.int .i64 0) := (blk_cell BK108.out 1).trans rfl; have hfz26_0 := blk_frozen BK108.out 0; have hfz26_1 := blk_frozen BK108.out 1) | ((with_reducible refine gate_callee (f := 29) rfl ?_); refine goesL_ (some 28) rfl rfl Try.func29 (by kernel_rfl) rfl #[.slice A0 l0.length c0, .agg #[.int .i64 ((rd_T35 l1 x7_1).f0), .int .i64 ((rd_T35 l1 x7_1).f1)]] rfl (by (try simp only [List.map_toArray, List.map_cons, List.map_nil]); first | done | rfl | (simp only [List.length_drop, List.length_take]; rfl)) ?_; (with_reducible refine (merkhetref12_Gaps.calls _ _ l0 ((rd_T35 l1 x7_1).f0) ((rd_T35 l1 x7_1).f1) t109 t110 false _ ?side1 ?side2 A9.out).mono ?_); (case side1 => exact Kd.C_below HR0.out (by repeat (first | (with_reducible first | exact HB.out | apply below_alloc | apply pw_below_drewN | apply below_drew1 | refine below_set ?_ GE108.out) | exact HB.out))); (case side2 => exact HC0.out); rintro e w27 ⟨rfl, hb⟩; refine ⟨_, rfl, ?_⟩; have n0_ := Aside0.mk (Kd.R_below (by (with_reducible repeat (first | apply Kd.R_alloc | apply Kd.R_drewN | apply Kd.R_drew)); exact (Kd.R_mono (Kd.R_far (p := ⟨gb108, 1, none⟩) (Kd.R_far (p := ⟨gb108, 0, none⟩) (Kd.R_types HO_5.out BK108.out (by decide)) (fun _ hk => hk.2) (.int .i64 ((rd_T35 l1 x7_1).f0))) (fun _ hk => hk.2) (.int .i64 ((rd_T35 l1 x7_1).f1))) (fun _ h_ => h_.1))) hb); have n1_ := Aside0.mk (Kd.R_below (by (with_reducible repeat (first | apply Kd.R_alloc | apply Kd.R_drewN | apply Kd.R_drew)); exact (Kd.R_mono (Kd.R_far (p := ⟨gb108, 1, none⟩) (Kd.R_far (p := ⟨gb108, 0, none⟩) (Kd.R_types HO_6.out BK108.out (by decide)) (fun _ hk => hk.2) (.int .i64 ((rd_T35 l1 x7_1).f0))) (fun _ hk => hk.2) (.int .i64 ((rd_T35 l1 x7_1).f1))) (fun _ h_ => h_.1))) hb); have n2_ := Aside0.mk (blk_below (g := gb108) (o := .cells #[.int .i64 ((rd_T35 l1 x7_1).f0), .int .i64 ((rd_T35 l1 x7_1).f1)] 35 (0, 0)) (by (with_reducible repeat (first | refine blk_drewN ?_ _ | refine blk_drew ?_ | refine blk_alloc ?_ _)); refine blk_put (cs := #[.int .i64 ((rd_T35 l1 x7_1).f0), .int .i64 0]) ?_ 1 _ rfl; (with_reducible repeat (first | refine blk_drewN ?_ _ | refine blk_drew ?_ | refine blk_alloc ?_ _)); refine blk_put (cs := #[.int .i64 0, .int .i64 0]) ?_ 0 _ rfl; (with_reducible repeat (first | refine blk_drewN ?_ _ | refine blk_drew ?_ | refine blk_alloc ?_ _)); exact BK108.out) hb); have n3_ := Aside0.mk (below_step (by repeat (first | (with_reducible first | exact HB.out | apply below_alloc | apply pw_below_drewN | apply below_drew1 | refine below_set ?_ GE108.out) | exact HB.out)) hb); clear HO_5; clear HO_6; clear BK108; clear HB; have HO_5 := n0_; have HO_6 := n1_; have BK108 := n2_; have HB := n3_; clear n0_ n1_ n2_ n3_; (try clear hb); (try clear hb2); (try clear hk); (try clear hi)))
            go_roundg k1
            case measure => have := HK1.out; omega
            case rel => exact ⟨(x6_1), (wrap64 (x7_1 + 1)), (by first | rfl | (simp; done) | (simp [*]; done)), H', ⟨by have := HK1.out; omega⟩, ⟨by (with_reducible repeat (first | apply Kd.R_alloc | apply Kd.R_drewN | apply Kd.R_drew)); exact HO_5.out⟩, ⟨by (with_reducible repeat (first | apply Kd.R_alloc | apply Kd.R_drewN | apply Kd.R_drew)); exact HO_6.out⟩, ⟨by repeat (first | (with_reducible first | exact HB.out | apply below_alloc | apply pw_below_drewN | apply below_drew1 | refine below_set ?_ GE108.out) | exact HB.out)⟩⟩
        · rw [if_neg c8] at H
          exact absurd H (by simp)
      · rw [if_neg c7] at H
        have c7b0 : decide (x7_1 < (l1.length : Int)) = false := decide_eq_false c7
        clear c7
        obtain rfl := Option.some.inj H
        go_wp2
        go_ret
        exact ⟨_, by first | rfl | (simp [errW_none, errW_some] <;> rfl) | (simp [*, errW_none, errW_some] <;> rfl), by (with_reducible repeat (first | apply Kd.R_alloc | apply Kd.R_drewN | apply Kd.R_drew)); exact HO_6.out, by repeat (first | (with_reducible first | exact HB.out | apply below_alloc | apply pw_below_drewN | apply below_drew1) | exact HB.out)⟩

/-! ### merkhetlaw14_BoundOf: function 3 -/
def merkhetlaw14_BoundOf.j0 : Nat → List (S42) → List (S35) → Bool → Option (Bool)
  | 0, _, _, _ => none
  | k + 1, x0, x1, x12 => if x12 = true then ((merkhetlaw14_fixed.f).bind fun t123 => (some t123)) else ((merkhetref10_Of.f k x0).bind fun t124 => ((merkhetref12_Of.f k x0 t124).bind fun t127 => ((merkhetlaw14_fixed.f).bind fun t130 => (if t130 = true then ((bound_Of.f x0 x1).bind fun t131 => ((merkhetref14_Of.f k x0 x1).bind fun t134 => ((merkhetref14_Same.f k t131 t134).bind fun t137 => (if t137 = true then ((bound_Of.f x0 t127).bind fun t138 => ((merkhetref14_Of.f k x0 t127).bind fun t141 => ((merkhetref14_Same.f k t138 t141).bind fun t144 => (some t144)))) else (some false))))) else (some false)))))
def merkhetlaw14_BoundOf.f (k : Nat) (l0 : List (S42)) (l1 : List (S35)) : Option (Bool) := (merkhetlaw04_Great.f k l0).bind fun t122 => (if t122 = true then (merkhetlaw14_BoundOf.j0 k l0 l1 true) else (merkhetlaw14_BoundOf.j0 k l0 l1 (decide ((l1.length : Int) > 60))))
theorem merkhetlaw14_BoundOf.mono_l : ∀ k, (∀ y0 y1 y2, LeO (merkhetlaw14_BoundOf.j0 k y0 y1 y2) (merkhetlaw14_BoundOf.j0 (k + 1) y0 y1 y2))
  | 0 => fun _ _ _ r h => by simp [merkhetlaw14_BoundOf.j0] at h
  | k + 1 => by
    have ih0 := merkhetlaw14_BoundOf.mono_l k
    · intro y0 y1 y2
      unfold merkhetlaw14_BoundOf.j0
      repeat' first
      | (with_reducible exact ih0 _ _ _)
      | (with_reducible exact merkhetlaw04_Great.mono _ _)
      | (with_reducible exact merkhetref10_Of.mono _ _)
      | (with_reducible exact merkhetref12_Of.mono _ _ _)
      | (with_reducible exact merkhetref14_Of.mono _ _ _)
      | (with_reducible exact merkhetref14_Same.mono _ _ _)
      | (with_reducible exact LeO.refl _)
      | (with_reducible exact LeO.none _)
      | (with_reducible refine LeO.ite ?_ ?_)
      | (with_reducible refine LeO.bind ?_ (fun _ => ?_))
      | exact ih0 _ _ _
      | exact merkhetlaw04_Great.mono _ _
      | exact merkhetref10_Of.mono _ _
      | exact merkhetref12_Of.mono _ _ _
      | exact merkhetref14_Of.mono _ _ _
      | exact merkhetref14_Same.mono _ _ _
      | exact LeO.none _
      | refine LeO.ite ?_ ?_
      | refine LeO.bind ?_ (fun _ => ?_)
theorem merkhetlaw14_BoundOf.mono : ∀ a0 a1 k, LeO (merkhetlaw14_BoundOf.f k a0 a1) (merkhetlaw14_BoundOf.f (k + 1) a0 a1) := by
  intro a0 a1 k
  have ih0 := merkhetlaw14_BoundOf.mono_l k
  unfold merkhetlaw14_BoundOf.f
  repeat' first
      | (with_reducible exact ih0 _ _ _)
      | (with_reducible exact merkhetlaw04_Great.mono _ _)
      | (with_reducible exact merkhetref10_Of.mono _ _)
      | (with_reducible exact merkhetref12_Of.mono _ _ _)
      | (with_reducible exact merkhetref14_Of.mono _ _ _)
      | (with_reducible exact merkhetref14_Same.mono _ _ _)
      | (with_reducible exact LeO.refl _)
      | (with_reducible exact LeO.none _)
      | (with_reducible refine LeO.ite ?_ ?_)
      | (with_reducible refine LeO.bind ?_ (fun _ => ?_))
      | exact ih0 _ _ _
      | exact merkhetlaw04_Great.mono _ _
      | exact merkhetref10_Of.mono _ _
      | exact merkhetref12_Of.mono _ _ _
      | exact merkhetref14_Of.mono _ _ _
      | exact merkhetref14_Same.mono _ _ _
      | exact LeO.none _
      | refine LeO.ite ?_ ?_
      | refine LeO.bind ?_ (fun _ => ?_)
set_option maxHeartbeats 8000000 in
set_option maxRecDepth 100000 in
theorem merkhetlaw14_BoundOf.calls (k : Nat) (A0 : Option Addr) (c0 : Nat) (l0 : List (S42)) (A1 : Option Addr) (c1 : Nat) (l1 : List (S35)) (r : Bool) (w : World) (hr0 : Kd.C k42 w A0 l0.length l0) (hc0 : l0.length ≤ c0) (hr1 : Kd.C k35 w A1 l1.length l1) (hc1 : l1.length ≤ c1) (h : merkhetlaw14_BoundOf.f k l0 l1 = some r) :
    Calls Try.prog 3 #[.slice A0 l0.length c0, .slice A1 l1.length c1] w fun e w' => e = .returned (.bool r) ∧ Below w.heap.size w w' := by
  have HR0 := Aside0.mk hr0
  have HC0 := Aside0.mk hc0
  clear hr0 hc0
  have HR1 := Aside0.mk hr1
  have HC1 := Aside0.mk hc1
  clear hr1 hc1
  have HB := Aside0.mk (Below.refl w.heap.size w)
  have H : ((merkhetlaw04_Great.f k l0).bind fun t122 => (if t122 = true then (merkhetlaw14_BoundOf.j0 k l0 l1 true) else (merkhetlaw14_BoundOf.j0 k l0 l1 (decide ((l1.length : Int) > 60))))) = some r := h
  clear h
  have HC3 := Aside0.mk H
  clear H
  go_enter Try.func3, Try.ntmps3
  go_upto_region 1 with (fail)
  go_cut [12] (fun v12 wc => ∃ (kq : Nat) (x12_2 : Bool), v12 = .bool x12_2 ∧ Aside0 (merkhetlaw14_BoundOf.j0 kq l0 l1 x12_2 = some r) ∧ Aside0 (kq ≤ k) ∧ Aside0 (Below w.heap.size w wc))
  case first =>
    have H := HC3.out
    clear HC3
    replace H := Option.bind_eq_some_iff.mp H
    obtain ⟨t122, A40, H⟩ := H
    replace H : (if t122 = true then (merkhetlaw14_BoundOf.j0 k l0 l1 true) else (merkhetlaw14_BoundOf.j0 k l0 l1 (decide ((l1.length : Int) > 60)))) = some r := H
    have A4 := Aside0.mk A40
    clear A40
    by_cases c5 : t122 = true
    · subst c5
      have H1 : (merkhetlaw14_BoundOf.j0 k l0 l1 true) = some r := by rw [if_pos rfl] at H; exact H
      clear H
      have H := H1
      clear H1
      have H' := Aside0.mk H
      clear H
      go_wp2_with (first | ((with_reducible refine gate_callee (f := 11) rfl ?_); refine goesL_ (some 7) rfl rfl Try.func11 (by kernel_rfl) rfl #[.slice A0 l0.length c0] rfl (by (try simp only [List.map_toArray, List.map_cons, List.map_nil]); first | done | rfl | (simp only [List.length_drop, List.length_take]; rfl)) ?_; (with_reducible refine (merkhetlaw04_Great.calls k _ _ l0 true _ ?side1 ?side2 A4.out).mono ?_); (case side1 => repeat (first | exact (Kd.C_below HR0.out HB.out) | (with_reducible refine Kd.C_alloc ?_ _) | (with_reducible refine Kd.C_drewN ?_ _) | (with_reducible refine Kd.C_drew ?_))); (case side2 => exact HC0.out); rintro e w6 ⟨rfl, hb⟩; refine ⟨_, rfl, ?_⟩; have n0_ := Aside0.mk (below_step (by repeat (first | (with_reducible first | exact HB.out | apply below_alloc | apply pw_below_drewN | apply below_drew1) | exact HB.out)) hb); clear HB; have HB := n0_; clear n0_; (try clear hb); (try clear hb2); (try clear hk); (try clear hi)))
      go_meet
      case rel => exact ⟨_, (true), (by first | rfl | (simp; done) | (simp [*]; done)), H', ⟨by first | omega | exact Nat.le_refl _⟩, ⟨by repeat (first | (with_reducible first | exact HB.out | apply below_alloc | apply pw_below_drewN | apply below_drew1) | exact HB.out)⟩⟩
    · replace c5 := Bool.eq_false_iff.mpr c5
      subst c5
      have H1 : (merkhetlaw14_BoundOf.j0 k l0 l1 (decide ((l1.length : Int) > 60))) = some r := by rw [if_neg (show ¬ (false = true) by decide)] at H; exact H
      clear H
      have H := H1
      clear H1
      have H' := Aside0.mk H
      clear H
      go_wp2_with (first | ((with_reducible refine gate_callee (f := 11) rfl ?_); refine goesL_ (some 7) rfl rfl Try.func11 (by kernel_rfl) rfl #[.slice A0 l0.length c0] rfl (by (try simp only [List.map_toArray, List.map_cons, List.map_nil]); first | done | rfl | (simp only [List.length_drop, List.length_take]; rfl)) ?_; (with_reducible refine (merkhetlaw04_Great.calls k _ _ l0 false _ ?side1 ?side2 A4.out).mono ?_); (case side1 => repeat (first | exact (Kd.C_below HR0.out HB.out) | (with_reducible refine Kd.C_alloc ?_ _) | (with_reducible refine Kd.C_drewN ?_ _) | (with_reducible refine Kd.C_drew ?_))); (case side2 => exact HC0.out); rintro e w7 ⟨rfl, hb⟩; refine ⟨_, rfl, ?_⟩; have n0_ := Aside0.mk (below_step (by repeat (first | (with_reducible first | exact HB.out | apply below_alloc | apply pw_below_drewN | apply below_drew1) | exact HB.out)) hb); clear HB; have HB := n0_; clear n0_; (try clear hb); (try clear hb2); (try clear hk); (try clear hi)))
      go_meet
      case rel => exact ⟨_, (decide ((l1.length : Int) > 60)), (by first | rfl | (simp; done) | (simp [*]; done)), H', ⟨by first | omega | exact Nat.le_refl _⟩, ⟨by repeat (first | (with_reducible first | exact HB.out | apply below_alloc | apply pw_below_drewN | apply below_drew1) | exact HB.out)⟩⟩
  case rest =>
    clear HC3
    try clear c1
    try clear p2
    try clear c3
    try clear c5
    obtain ⟨kq, x12_2, rfl, HA, HJ2, HB⟩ := hcut
    cases kq with
    | zero => exact absurd HA.out (by simp [merkhetlaw14_BoundOf.j0])
    | succ kj2 =>
      have H := HA.out
      clear HA
      simp only [merkhetlaw14_BoundOf.j0] at H
      by_cases c8 : x12_2 = true
      · subst c8
        have H1 : ((merkhetlaw14_fixed.f).bind fun t123 => (some t123)) = some r := by rw [if_pos rfl] at H; exact H
        clear H
        have H := H1
        clear H1
        replace H := Option.bind_eq_some_iff.mp H
        obtain ⟨t123, A90, H⟩ := H
        replace H : (some t123) = some r := H
        have A9 := Aside0.mk A90
        clear A90
        obtain rfl := Option.some.inj H
        go_wp2_with (first | ((with_reducible refine gate_callee (f := 12) rfl ?_); refine goesL_ (some 13) rfl rfl Try.func12 (by kernel_rfl) rfl #[] rfl (by (try simp only [List.map_toArray, List.map_cons, List.map_nil]); first | done | rfl | (simp only [List.length_drop, List.length_take]; rfl)) ?_; (with_reducible refine (merkhetlaw14_fixed.calls  t123 _ A9.out).mono ?_); rintro e w10 ⟨rfl, hb⟩; refine ⟨_, rfl, ?_⟩; have n0_ := Aside0.mk (below_step (by repeat (first | (with_reducible first | exact HB.out | apply below_alloc | apply pw_below_drewN | apply below_drew1) | exact HB.out)) hb); clear HB; have HB := n0_; clear n0_; (try clear hb); (try clear hb2); (try clear hk); (try clear hi)))
        go_ret
        exact ⟨by first | rfl | (simp [errW_none, errW_some] <;> rfl) | (simp [*, errW_none, errW_some] <;> rfl), by repeat (first | (with_reducible first | exact HB.out | apply below_alloc | apply pw_below_drewN | apply below_drew1) | exact HB.out)⟩
      · replace c8 := Bool.eq_false_iff.mpr c8
        subst c8
        have H1 : ((merkhetref10_Of.f kj2 l0).bind fun t124 => ((merkhetref12_Of.f kj2 l0 t124).bind fun t127 => ((merkhetlaw14_fixed.f).bind fun t130 => (if t130 = true then ((bound_Of.f l0 l1).bind fun t131 => ((merkhetref14_Of.f kj2 l0 l1).bind fun t134 => ((merkhetref14_Same.f kj2 t131 t134).bind fun t137 => (if t137 = true then ((bound_Of.f l0 t127).bind fun t138 => ((merkhetref14_Of.f kj2 l0 t127).bind fun t141 => ((merkhetref14_Same.f kj2 t138 t141).bind fun t144 => (some t144)))) else (some false))))) else (some false))))) = some r := by rw [if_neg (show ¬ (false = true) by decide)] at H; exact H
        clear H
        have H := H1
        clear H1
        replace H := Option.bind_eq_some_iff.mp H
        obtain ⟨t124, A110, H⟩ := H
        replace H : ((merkhetref12_Of.f kj2 l0 t124).bind fun t127 => ((merkhetlaw14_fixed.f).bind fun t130 => (if t130 = true then ((bound_Of.f l0 l1).bind fun t131 => ((merkhetref14_Of.f kj2 l0 l1).bind fun t134 => ((merkhetref14_Same.f kj2 t131 t134).bind fun t137 => (if t137 = true then ((bound_Of.f l0 t127).bind fun t138 => ((merkhetref14_Of.f kj2 l0 t127).bind fun t141 => ((merkhetref14_Same.f kj2 t138 t141).bind fun t144 => (some t144)))) else (some false))))) else (some false)))) = some r := H
        have A11 := Aside0.mk A110
        clear A110
        replace H := Option.bind_eq_some_iff.mp H
        obtain ⟨t127, A120, H⟩ := H
        replace H : ((merkhetlaw14_fixed.f).bind fun t130 => (if t130 = true then ((bound_Of.f l0 l1).bind fun t131 => ((merkhetref14_Of.f kj2 l0 l1).bind fun t134 => ((merkhetref14_Same.f kj2 t131 t134).bind fun t137 => (if t137 = true then ((bound_Of.f l0 t127).bind fun t138 => ((merkhetref14_Of.f kj2 l0 t127).bind fun t141 => ((merkhetref14_Same.f kj2 t138 t141).bind fun t144 => (some t144)))) else (some false))))) else (some false))) = some r := H
        have A12 := Aside0.mk A120
        clear A120
        replace H := Option.bind_eq_some_iff.mp H
        obtain ⟨t130, A130, H⟩ := H
        replace H : (if t130 = true then ((bound_Of.f l0 l1).bind fun t131 => ((merkhetref14_Of.f kj2 l0 l1).bind fun t134 => ((merkhetref14_Same.f kj2 t131 t134).bind fun t137 => (if t137 = true then ((bound_Of.f l0 t127).bind fun t138 => ((merkhetref14_Of.f kj2 l0 t127).bind fun t141 => ((merkhetref14_Same.f kj2 t138 t141).bind fun t144 => (some t144)))) else (some false))))) else (some false)) = some r := H
        have A13 := Aside0.mk A130
        clear A130
        by_cases c14 : t130 = true
        · subst c14
          have H1 : ((bound_Of.f l0 l1).bind fun t131 => ((merkhetref14_Of.f kj2 l0 l1).bind fun t134 => ((merkhetref14_Same.f kj2 t131 t134).bind fun t137 => (if t137 = true then ((bound_Of.f l0 t127).bind fun t138 => ((merkhetref14_Of.f kj2 l0 t127).bind fun t141 => ((merkhetref14_Same.f kj2 t138 t141).bind fun t144 => (some t144)))) else (some false))))) = some r := by rw [if_pos rfl] at H; exact H
          clear H
          have H := H1
          clear H1
          replace H := Option.bind_eq_some_iff.mp H
          obtain ⟨t131, A150, H⟩ := H
          replace H : ((merkhetref14_Of.f kj2 l0 l1).bind fun t134 => ((merkhetref14_Same.f kj2 t131 t134).bind fun t137 => (if t137 = true then ((bound_Of.f l0 t127).bind fun t138 => ((merkhetref14_Of.f kj2 l0 t127).bind fun t141 => ((merkhetref14_Same.f kj2 t138 t141).bind fun t144 => (some t144)))) else (some false)))) = some r := H
          have A15 := Aside0.mk A150
          clear A150
          replace H := Option.bind_eq_some_iff.mp H
          obtain ⟨t134, A160, H⟩ := H
          replace H : ((merkhetref14_Same.f kj2 t131 t134).bind fun t137 => (if t137 = true then ((bound_Of.f l0 t127).bind fun t138 => ((merkhetref14_Of.f kj2 l0 t127).bind fun t141 => ((merkhetref14_Same.f kj2 t138 t141).bind fun t144 => (some t144)))) else (some false))) = some r := H
          have A16 := Aside0.mk A160
          clear A160
          replace H := Option.bind_eq_some_iff.mp H
          obtain ⟨t137, A170, H⟩ := H
          replace H : (if t137 = true then ((bound_Of.f l0 t127).bind fun t138 => ((merkhetref14_Of.f kj2 l0 t127).bind fun t141 => ((merkhetref14_Same.f kj2 t138 t141).bind fun t144 => (some t144)))) else (some false)) = some r := H
          have A17 := Aside0.mk A170
          clear A170
          by_cases c18 : t137 = true
          · subst c18
            have H1 : ((bound_Of.f l0 t127).bind fun t138 => ((merkhetref14_Of.f kj2 l0 t127).bind fun t141 => ((merkhetref14_Same.f kj2 t138 t141).bind fun t144 => (some t144)))) = some r := by rw [if_pos rfl] at H; exact H
            clear H
            have H := H1
            clear H1
            replace H := Option.bind_eq_some_iff.mp H
            obtain ⟨t138, A190, H⟩ := H
            replace H : ((merkhetref14_Of.f kj2 l0 t127).bind fun t141 => ((merkhetref14_Same.f kj2 t138 t141).bind fun t144 => (some t144))) = some r := H
            have A19 := Aside0.mk A190
            clear A190
            replace H := Option.bind_eq_some_iff.mp H
            obtain ⟨t141, A200, H⟩ := H
            replace H : ((merkhetref14_Same.f kj2 t138 t141).bind fun t144 => (some t144)) = some r := H
            have A20 := Aside0.mk A200
            clear A200
            replace H := Option.bind_eq_some_iff.mp H
            obtain ⟨t144, A210, H⟩ := H
            replace H : (some t144) = some r := H
            have A21 := Aside0.mk A210
            clear A210
            obtain rfl := Option.some.inj H
            go_wp2_with (first | ((with_reducible refine gate_callee (f := 14) rfl ?_); refine goesL_ (some 16) rfl rfl Try.func14 (by kernel_rfl) rfl #[.slice A0 l0.length c0] rfl (by (try simp only [List.map_toArray, List.map_cons, List.map_nil]); first | done | rfl | (simp only [List.length_drop, List.length_take]; rfl)) ?_; (with_reducible refine (merkhetref10_Of.calls kj2 _ _ l0 t124 _ ?side1 ?side2 A11.out).mono ?_); (case side1 => repeat (first | exact (Kd.C_below HR0.out HB.out) | (with_reducible refine Kd.C_alloc ?_ _) | (with_reducible refine Kd.C_drewN ?_ _) | (with_reducible refine Kd.C_drew ?_))); (case side2 => exact HC0.out); rintro e w22 ⟨v125, rfl, ho0, hb⟩; refine ⟨_, rfl, ?_⟩; have n0_ := Aside0.mk (Kd.R_lower ho0 (below_size (by repeat (first | (with_reducible first | exact HB.out | apply below_alloc | apply pw_below_drewN | apply below_drew1) | exact HB.out)))); have n1_ := Aside0.mk (below_step (by repeat (first | (with_reducible first | exact HB.out | apply below_alloc | apply pw_below_drewN | apply below_drew1) | exact HB.out)) hb); clear HB; have HO126 := n0_; have HB := n1_; clear n0_ n1_; (try clear hb); (try clear hb2); (try clear hk); (try clear hi); (try clear ho0); obtain ⟨Ao23, co23, eo23⟩ := Kd.R_slice HO126.out; subst eo23) | ((with_reducible refine gate_callee (f := 13) rfl ?_); refine goesL_ (some 17) rfl rfl Try.func13 (by kernel_rfl) rfl #[.slice A0 l0.length c0, .slice Ao23 t124.length co23] rfl (by (try simp only [List.map_toArray, List.map_cons, List.map_nil]); first | done | rfl | (simp only [List.length_drop, List.length_take]; rfl)) ?_; (with_reducible refine (merkhetref12_Of.calls kj2 _ _ l0 _ _ t124 t127 _ ?side1 ?side2 ?side3 ?side4 A12.out).mono ?_); (case side1 => repeat (first | exact (Kd.C_below HR0.out HB.out) | (with_reducible refine Kd.C_alloc ?_ _) | (with_reducible refine Kd.C_drewN ?_ _) | (with_reducible refine Kd.C_drew ?_))); (case side2 => exact HC0.out); (case side3 => repeat (first | exact (Kd.R_reads' HO126.out).2.2 | (with_reducible refine Kd.C_alloc ?_ _) | (with_reducible refine Kd.C_drewN ?_ _) | (with_reducible refine Kd.C_drew ?_))); (case side4 => exact (Kd.R_reads' HO126.out).2.1); rintro e w24 ⟨v128, rfl, ho0, hb⟩; refine ⟨_, rfl, ?_⟩; have n0_ := Aside0.mk (Kd.R_below (by (with_reducible repeat (first | apply Kd.R_alloc | apply Kd.R_drewN | apply Kd.R_drew)); exact HO126.out) hb); have n1_ := Aside0.mk (Kd.R_lower ho0 (below_size (by repeat (first | (with_reducible first | exact HB.out | apply below_alloc | apply pw_below_drewN | apply below_drew1) | exact HB.out)))); have n2_ := Aside0.mk (below_step (by repeat (first | (with_reducible first | exact HB.out | apply below_alloc | apply pw_below_drewN | apply below_drew1) | exact HB.out)) hb); clear HO126; clear HB; have HO126 := n0_; have HO129 := n1_; have HB := n2_; clear n0_ n1_ n2_; (try clear hb); (try clear hb2); (try clear hk); (try clear hi); (try clear ho0)) | ((with_reducible refine gate_callee (f := 12) rfl ?_); refine goesL_ (some 18) rfl rfl Try.func12 (by kernel_rfl) rfl #[] rfl (by (try simp only [List.map_toArray, List.map_cons, List.map_nil]); first | done | rfl | (simp only [List.length_drop, List.length_take]; rfl)) ?_; (with_reducible refine (merkhetlaw14_fixed.calls  true _ A13.out).mono ?_); rintro e w25 ⟨rfl, hb⟩; refine ⟨_, rfl, ?_⟩; have n0_ := Aside0.mk (Kd.R_below (by (with_reducible repeat (first | apply Kd.R_alloc | apply Kd.R_drewN | apply Kd.R_drew)); exact HO126.out) hb); have n1_ := Aside0.mk (Kd.R_below (by (with_reducible repeat (first | apply Kd.R_alloc | apply Kd.R_drewN | apply Kd.R_drew)); exact HO129.out) hb); have n2_ := Aside0.mk (below_step (by repeat (first | (with_reducible first | exact HB.out | apply below_alloc | apply pw_below_drewN | apply below_drew1) | exact HB.out)) hb); clear HO126; clear HO129; clear HB; have HO126 := n0_; have HO129 := n1_; have HB := n2_; clear n0_ n1_ n2_; (try clear hb); (try clear hb2); (try clear hk); (try clear hi)) | (go_at_call 16; (with_reducible refine (bound_Of.calls _ _ l0 _ _ l1 t131 _ ?side1 ?side2 ?side3 ?side4 A15.out).mono ?_); (case side1 => repeat (first | exact (Kd.C_below HR0.out HB.out) | (with_reducible refine Kd.C_alloc ?_ _) | (with_reducible refine Kd.C_drewN ?_ _) | (with_reducible refine Kd.C_drew ?_))); (case side2 => exact HC0.out); (case side3 => repeat (first | exact (Kd.C_below HR1.out HB.out) | (with_reducible refine Kd.C_alloc ?_ _) | (with_reducible refine Kd.C_drewN ?_ _) | (with_reducible refine Kd.C_drew ?_))); (case side4 => exact HC1.out); rintro e w26 ⟨v132, rfl, ho0, hb⟩; have n0_ := Aside0.mk (Kd.R_below (by (with_reducible repeat (first | apply Kd.R_alloc | apply Kd.R_drewN | apply Kd.R_drew)); exact HO126.out) hb); have n1_ := Aside0.mk (Kd.R_below (by (with_reducible repeat (first | apply Kd.R_alloc | apply Kd.R_drewN | apply Kd.R_drew)); exact HO129.out) hb); have n2_ := Aside0.mk (Kd.R_lower ho0 (below_size (by repeat (first | (with_reducible first | exact HB.out | apply below_alloc | apply pw_below_drewN | apply below_drew1) | exact HB.out)))); have n3_ := Aside0.mk (below_step (by repeat (first | (with_reducible first | exact HB.out | apply below_alloc | apply pw_below_drewN | apply below_drew1) | exact HB.out)) hb); clear HO126; clear HO129; clear HB; have HO126 := n0_; have HO129 := n1_; have HO133 := n2_; have HB := n3_; clear n0_ n1_ n2_ n3_; (try clear hb); (try clear hb2); (try clear hk); (try clear hi); (try clear ho0)) | (go_at_call 17; (with_reducible refine (merkhetref14_Of.calls kj2 _ _ l0 _ _ l1 t134 _ ?side1 ?side2 ?side3 ?side4 A16.out).mono ?_); (case side1 => repeat (first | exact (Kd.C_below HR0.out HB.out) | (with_reducible refine Kd.C_alloc ?_ _) | (with_reducible refine Kd.C_drewN ?_ _) | (with_reducible refine Kd.C_drew ?_))); (case side2 => exact HC0.out); (case side3 => repeat (first | exact (Kd.C_below HR1.out HB.out) | (with_reducible refine Kd.C_alloc ?_ _) | (with_reducible refine Kd.C_drewN ?_ _) | (with_reducible refine Kd.C_drew ?_))); (case side4 => exact HC1.out); rintro e w27 ⟨v135, rfl, ho0, hb⟩; have n0_ := Aside0.mk (Kd.R_below (by (with_reducible repeat (first | apply Kd.R_alloc | apply Kd.R_drewN | apply Kd.R_drew)); exact HO126.out) hb); have n1_ := Aside0.mk (Kd.R_below (by (with_reducible repeat (first | apply Kd.R_alloc | apply Kd.R_drewN | apply Kd.R_drew)); exact HO129.out) hb); have n2_ := Aside0.mk (Kd.R_elder' (by (with_reducible repeat (first | apply Kd.R_alloc | apply Kd.R_drewN | apply Kd.R_drew)); exact HO133.out) (Kd.R_base ho0) hb); have n3_ := Aside0.mk (Kd.R_lower (Kd.R_new' ho0 (Kd.R_lt (by (with_reducible repeat (first | apply Kd.R_alloc | apply Kd.R_drewN | apply Kd.R_drew)); exact HO133.out))) (below_size (by repeat (first | (with_reducible first | exact HB.out | apply below_alloc | apply pw_below_drewN | apply below_drew1) | exact HB.out)))); have n4_ := Aside0.mk (below_step (by repeat (first | (with_reducible first | exact HB.out | apply below_alloc | apply pw_below_drewN | apply below_drew1) | exact HB.out)) hb); clear HO126; clear HO129; clear HO133; clear HB; have HO126 := n0_; have HO129 := n1_; have HO133 := n2_; have HO136 := n3_; have HB := n4_; clear n0_ n1_ n2_ n3_ n4_; (try clear hb); (try clear hb2); (try clear hk); (try clear hi); (try clear ho0); obtain ⟨Ao28, co28, eo28⟩ := Kd.R_slice HO133.out; subst eo28; obtain ⟨Ao29, co29, eo29⟩ := Kd.R_slice HO136.out; subst eo29) | (go_at_call 15; (with_reducible refine (merkhetref14_Same.calls kj2 _ _ t131 _ _ t134 true _ ?side1 ?side2 ?side3 ?side4 A17.out).mono ?_); (case side1 => repeat (first | exact (Kd.R_reads' HO133.out).2.2 | (with_reducible refine Kd.C_alloc ?_ _) | (with_reducible refine Kd.C_drewN ?_ _) | (with_reducible refine Kd.C_drew ?_))); (case side2 => exact (Kd.R_reads' HO133.out).2.1); (case side3 => repeat (first | exact (Kd.R_reads' HO136.out).2.2 | (with_reducible refine Kd.C_alloc ?_ _) | (with_reducible refine Kd.C_drewN ?_ _) | (with_reducible refine Kd.C_drew ?_))); (case side4 => exact (Kd.R_reads' HO136.out).2.1); rintro e w' ⟨rfl, ⟨nd, rfl⟩⟩; obtain ⟨Ao30, co30, eo30⟩ := Kd.R_slice HO129.out; subst eo30) | (go_at_call 16; (with_reducible refine (bound_Of.calls _ _ l0 _ _ t127 t138 _ ?side1 ?side2 ?side3 ?side4 A19.out).mono ?_); (case side1 => repeat (first | exact (Kd.C_below HR0.out (by repeat (first | (with_reducible first | exact HB.out | apply below_alloc | apply pw_below_drewN | apply below_drew1) | exact HB.out))) | (with_reducible refine Kd.C_alloc ?_ _) | (with_reducible refine Kd.C_drewN ?_ _) | (with_reducible refine Kd.C_drew ?_))); (case side2 => exact HC0.out); (case side3 => repeat (first | exact (Kd.R_reads' HO129.out).2.2 | (with_reducible refine Kd.C_alloc ?_ _) | (with_reducible refine Kd.C_drewN ?_ _) | (with_reducible refine Kd.C_drew ?_))); (case side4 => exact (Kd.R_reads' HO129.out).2.1); rintro e w31 ⟨v139, rfl, ho0, hb⟩; have n0_ := Aside0.mk (Kd.R_below (by (with_reducible repeat (first | apply Kd.R_alloc | apply Kd.R_drewN | apply Kd.R_drew)); exact HO126.out) hb); have n1_ := Aside0.mk (Kd.R_below (by (with_reducible repeat (first | apply Kd.R_alloc | apply Kd.R_drewN | apply Kd.R_drew)); exact HO129.out) hb); have n2_ := Aside0.mk (Kd.R_elder' (by (with_reducible repeat (first | apply Kd.R_alloc | apply Kd.R_drewN | apply Kd.R_drew)); exact HO133.out) (Kd.R_base ho0) hb); have n3_ := Aside0.mk (Kd.R_elder' (by (with_reducible repeat (first | apply Kd.R_alloc | apply Kd.R_drewN | apply Kd.R_drew)); exact HO136.out) (Kd.R_base ho0) hb); have n4_ := Aside0.mk (Kd.R_lower (Kd.R_new' (Kd.R_new' ho0 (Kd.R_lt (by (with_reducible repeat (first | apply Kd.R_alloc | apply Kd.R_drewN | apply Kd.R_drew)); exact HO133.out))) (Kd.R_lt (by (with_reducible repeat (first | apply Kd.R_alloc | apply Kd.R_drewN | apply Kd.R_drew)); exact HO136.out))) (below_size (by repeat (first | (with_reducible first | exact HB.out | apply below_alloc | apply pw_below_drewN | apply below_drew1) | exact HB.out)))); have n5_ := Aside0.mk (below_step (by repeat (first | (with_reducible first | exact HB.out | apply below_alloc | apply pw_below_drewN | apply below_drew1) | exact HB.out)) hb); clear HO126; clear HO129; clear HO133; clear HO136; clear HB; have HO126 := n0_; have HO129 := n1_; have HO133 := n2_; have HO136 := n3_; have HO140 := n4_; have HB := n5_; clear n0_ n1_ n2_ n3_ n4_ n5_; (try clear hb); (try clear hb2); (try clear hk); (try clear hi); (try clear ho0)) | (go_at_call 17; (with_reducible refine (merkhetref14_Of.calls kj2 _ _ l0 _ _ t127 t141 _ ?side1 ?side2 ?side3 ?side4 A20.out).mono ?_); (case side1 => repeat (first | exact (Kd.C_below HR0.out HB.out) | (with_reducible refine Kd.C_alloc ?_ _) | (with_reducible refine Kd.C_drewN ?_ _) | (with_reducible refine Kd.C_drew ?_))); (case side2 => exact HC0.out); (case side3 => repeat (first | exact (Kd.R_reads' HO129.out).2.2 | (with_reducible refine Kd.C_alloc ?_ _) | (with_reducible refine Kd.C_drewN ?_ _) | (with_reducible refine Kd.C_drew ?_))); (case side4 => exact (Kd.R_reads' HO129.out).2.1); rintro e w32 ⟨v142, rfl, ho0, hb⟩; have n0_ := Aside0.mk (Kd.R_below (by (with_reducible repeat (first | apply Kd.R_alloc | apply Kd.R_drewN | apply Kd.R_drew)); exact HO126.out) hb); have n1_ := Aside0.mk (Kd.R_below (by (with_reducible repeat (first | apply Kd.R_alloc | apply Kd.R_drewN | apply Kd.R_drew)); exact HO129.out) hb); have n2_ := Aside0.mk (Kd.R_elder' (by (with_reducible repeat (first | apply Kd.R_alloc | apply Kd.R_drewN | apply Kd.R_drew)); exact HO133.out) (Kd.R_base ho0) hb); have n3_ := Aside0.mk (Kd.R_elder' (by (with_reducible repeat (first | apply Kd.R_alloc | apply Kd.R_drewN | apply Kd.R_drew)); exact HO136.out) (Kd.R_base ho0) hb); have n4_ := Aside0.mk (Kd.R_elder' (by (with_reducible repeat (first | apply Kd.R_alloc | apply Kd.R_drewN | apply Kd.R_drew)); exact HO140.out) (Kd.R_base ho0) hb); have n5_ := Aside0.mk (Kd.R_lower (Kd.R_new' (Kd.R_new' (Kd.R_new' ho0 (Kd.R_lt (by (with_reducible repeat (first | apply Kd.R_alloc | apply Kd.R_drewN | apply Kd.R_drew)); exact HO133.out))) (Kd.R_lt (by (with_reducible repeat (first | apply Kd.R_alloc | apply Kd.R_drewN | apply Kd.R_drew)); exact HO136.out))) (Kd.R_lt (by (with_reducible repeat (first | apply Kd.R_alloc | apply Kd.R_drewN | apply Kd.R_drew)); exact HO140.out))) (below_size (by repeat (first | (with_reducible first | exact HB.out | apply below_alloc | apply pw_below_drewN | apply below_drew1) | exact HB.out)))); have n6_ := Aside0.mk (below_step (by repeat (first | (with_reducible first | exact HB.out | apply below_alloc | apply pw_below_drewN | apply below_drew1) | exact HB.out)) hb); clear HO126; clear HO129; clear HO133; clear HO136; clear HO140; clear HB; have HO126 := n0_; have HO129 := n1_; have HO133 := n2_; have HO136 := n3_; have HO140 := n4_; have HO143 := n5_; have HB := n6_; clear n0_ n1_ n2_ n3_ n4_ n5_ n6_; (try clear hb); (try clear hb2); (try clear hk); (try clear hi); (try clear ho0); obtain ⟨Ao33, co33, eo33⟩ := Kd.R_slice HO140.out; subst eo33; obtain ⟨Ao34, co34, eo34⟩ := Kd.R_slice HO143.out; subst eo34) | (go_at_call 15; (with_reducible refine (merkhetref14_Same.calls kj2 _ _ t138 _ _ t141 t144 _ ?side1 ?side2 ?side3 ?side4 A21.out).mono ?_); (case side1 => repeat (first | exact (Kd.R_reads' HO140.out).2.2 | (with_reducible refine Kd.C_alloc ?_ _) | (with_reducible refine Kd.C_drewN ?_ _) | (with_reducible refine Kd.C_drew ?_))); (case side2 => exact (Kd.R_reads' HO140.out).2.1); (case side3 => repeat (first | exact (Kd.R_reads' HO143.out).2.2 | (with_reducible refine Kd.C_alloc ?_ _) | (with_reducible refine Kd.C_drewN ?_ _) | (with_reducible refine Kd.C_drew ?_))); (case side4 => exact (Kd.R_reads' HO143.out).2.1); rintro e w' ⟨rfl, ⟨nd, rfl⟩⟩))
            go_ret
            exact ⟨by first | rfl | (simp [errW_none, errW_some] <;> rfl) | (simp [*, errW_none, errW_some] <;> rfl), by repeat (first | (with_reducible first | exact HB.out | apply below_alloc | apply pw_below_drewN | apply below_drew1) | exact HB.out)⟩
          · replace c18 := Bool.eq_false_iff.mpr c18
            subst c18
            have H1 : (some false) = some r := by rw [if_neg (show ¬ (false = true) by decide)] at H; exact H
            clear H
            have H := H1
            clear H1
            obtain rfl := Option.some.inj H
            go_wp2_with (first | ((with_reducible refine gate_callee (f := 14) rfl ?_); refine goesL_ (some 16) rfl rfl Try.func14 (by kernel_rfl) rfl #[.slice A0 l0.length c0] rfl (by (try simp only [List.map_toArray, List.map_cons, List.map_nil]); first | done | rfl | (simp only [List.length_drop, List.length_take]; rfl)) ?_; (with_reducible refine (merkhetref10_Of.calls kj2 _ _ l0 t124 _ ?side1 ?side2 A11.out).mono ?_); (case side1 => repeat (first | exact (Kd.C_below HR0.out HB.out) | (with_reducible refine Kd.C_alloc ?_ _) | (with_reducible refine Kd.C_drewN ?_ _) | (with_reducible refine Kd.C_drew ?_))); (case side2 => exact HC0.out); rintro e w35 ⟨v125, rfl, ho0, hb⟩; refine ⟨_, rfl, ?_⟩; have n0_ := Aside0.mk (Kd.R_lower ho0 (below_size (by repeat (first | (with_reducible first | exact HB.out | apply below_alloc | apply pw_below_drewN | apply below_drew1) | exact HB.out)))); have n1_ := Aside0.mk (below_step (by repeat (first | (with_reducible first | exact HB.out | apply below_alloc | apply pw_below_drewN | apply below_drew1) | exact HB.out)) hb); clear HB; have HO126 := n0_; have HB := n1_; clear n0_ n1_; (try clear hb); (try clear hb2); (try clear hk); (try clear hi); (try clear ho0); obtain ⟨Ao36, co36, eo36⟩ := Kd.R_slice HO126.out; subst eo36) | ((with_reducible refine gate_callee (f := 13) rfl ?_); refine goesL_ (some 17) rfl rfl Try.func13 (by kernel_rfl) rfl #[.slice A0 l0.length c0, .slice Ao36 t124.length co36] rfl (by (try simp only [List.map_toArray, List.map_cons, List.map_nil]); first | done | rfl | (simp only [List.length_drop, List.length_take]; rfl)) ?_; (with_reducible refine (merkhetref12_Of.calls kj2 _ _ l0 _ _ t124 t127 _ ?side1 ?side2 ?side3 ?side4 A12.out).mono ?_); (case side1 => repeat (first | exact (Kd.C_below HR0.out HB.out) | (with_reducible refine Kd.C_alloc ?_ _) | (with_reducible refine Kd.C_drewN ?_ _) | (with_reducible refine Kd.C_drew ?_))); (case side2 => exact HC0.out); (case side3 => repeat (first | exact (Kd.R_reads' HO126.out).2.2 | (with_reducible refine Kd.C_alloc ?_ _) | (with_reducible refine Kd.C_drewN ?_ _) | (with_reducible refine Kd.C_drew ?_))); (case side4 => exact (Kd.R_reads' HO126.out).2.1); rintro e w37 ⟨v128, rfl, ho0, hb⟩; refine ⟨_, rfl, ?_⟩; have n0_ := Aside0.mk (Kd.R_below (by (with_reducible repeat (first | apply Kd.R_alloc | apply Kd.R_drewN | apply Kd.R_drew)); exact HO126.out) hb); have n1_ := Aside0.mk (Kd.R_lower ho0 (below_size (by repeat (first | (with_reducible first | exact HB.out | apply below_alloc | apply pw_below_drewN | apply below_drew1) | exact HB.out)))); have n2_ := Aside0.mk (below_step (by repeat (first | (with_reducible first | exact HB.out | apply below_alloc | apply pw_below_drewN | apply below_drew1) | exact HB.out)) hb); clear HO126; clear HB; have HO126 := n0_; have HO129 := n1_; have HB := n2_; clear n0_ n1_ n2_; (try clear hb); (try clear hb2); (try clear hk); (try clear hi); (try clear ho0)) | ((with_reducible refine gate_callee (f := 12) rfl ?_); refine goesL_ (some 18) rfl rfl Try.func12 (by kernel_rfl) rfl #[] rfl (by (try simp only [List.map_toArray, List.map_cons, List.map_nil]); first | done | rfl | (simp only [List.length_drop, List.length_take]; rfl)) ?_; (with_reducible refine (merkhetlaw14_fixed.calls  true _ A13.out).mono ?_); rintro e w38 ⟨rfl, hb⟩; refine ⟨_, rfl, ?_⟩; have n0_ := Aside0.mk (Kd.R_below (by (with_reducible repeat (first | apply Kd.R_alloc | apply Kd.R_drewN | apply Kd.R_drew)); exact HO126.out) hb); have n1_ := Aside0.mk (Kd.R_below (by (with_reducible repeat (first | apply Kd.R_alloc | apply Kd.R_drewN | apply Kd.R_drew)); exact HO129.out) hb); have n2_ := Aside0.mk (below_step (by repeat (first | (with_reducible first | exact HB.out | apply below_alloc | apply pw_below_drewN | apply below_drew1) | exact HB.out)) hb); clear HO126; clear HO129; clear HB; have HO126 := n0_; have HO129 := n1_; have HB := n2_; clear n0_ n1_ n2_; (try clear hb); (try clear hb2); (try clear hk); (try clear hi)) | (go_at_call 16; (with_reducible refine (bound_Of.calls _ _ l0 _ _ l1 t131 _ ?side1 ?side2 ?side3 ?side4 A15.out).mono ?_); (case side1 => repeat (first | exact (Kd.C_below HR0.out HB.out) | (with_reducible refine Kd.C_alloc ?_ _) | (with_reducible refine Kd.C_drewN ?_ _) | (with_reducible refine Kd.C_drew ?_))); (case side2 => exact HC0.out); (case side3 => repeat (first | exact (Kd.C_below HR1.out HB.out) | (with_reducible refine Kd.C_alloc ?_ _) | (with_reducible refine Kd.C_drewN ?_ _) | (with_reducible refine Kd.C_drew ?_))); (case side4 => exact HC1.out); rintro e w39 ⟨v132, rfl, ho0, hb⟩; have n0_ := Aside0.mk (Kd.R_below (by (with_reducible repeat (first | apply Kd.R_alloc | apply Kd.R_drewN | apply Kd.R_drew)); exact HO126.out) hb); have n1_ := Aside0.mk (Kd.R_below (by (with_reducible repeat (first | apply Kd.R_alloc | apply Kd.R_drewN | apply Kd.R_drew)); exact HO129.out) hb); have n2_ := Aside0.mk (Kd.R_lower ho0 (below_size (by repeat (first | (with_reducible first | exact HB.out | apply below_alloc | apply pw_below_drewN | apply below_drew1) | exact HB.out)))); have n3_ := Aside0.mk (below_step (by repeat (first | (with_reducible first | exact HB.out | apply below_alloc | apply pw_below_drewN | apply below_drew1) | exact HB.out)) hb); clear HO126; clear HO129; clear HB; have HO126 := n0_; have HO129 := n1_; have HO133 := n2_; have HB := n3_; clear n0_ n1_ n2_ n3_; (try clear hb); (try clear hb2); (try clear hk); (try clear hi); (try clear ho0)) | (go_at_call 17; (with_reducible refine (merkhetref14_Of.calls kj2 _ _ l0 _ _ l1 t134 _ ?side1 ?side2 ?side3 ?side4 A16.out).mono ?_); (case side1 => repeat (first | exact (Kd.C_below HR0.out HB.out) | (with_reducible refine Kd.C_alloc ?_ _) | (with_reducible refine Kd.C_drewN ?_ _) | (with_reducible refine Kd.C_drew ?_))); (case side2 => exact HC0.out); (case side3 => repeat (first | exact (Kd.C_below HR1.out HB.out) | (with_reducible refine Kd.C_alloc ?_ _) | (with_reducible refine Kd.C_drewN ?_ _) | (with_reducible refine Kd.C_drew ?_))); (case side4 => exact HC1.out); rintro e w40 ⟨v135, rfl, ho0, hb⟩; have n0_ := Aside0.mk (Kd.R_below (by (with_reducible repeat (first | apply Kd.R_alloc | apply Kd.R_drewN | apply Kd.R_drew)); exact HO126.out) hb); have n1_ := Aside0.mk (Kd.R_below (by (with_reducible repeat (first | apply Kd.R_alloc | apply Kd.R_drewN | apply Kd.R_drew)); exact HO129.out) hb); have n2_ := Aside0.mk (Kd.R_elder' (by (with_reducible repeat (first | apply Kd.R_alloc | apply Kd.R_drewN | apply Kd.R_drew)); exact HO133.out) (Kd.R_base ho0) hb); have n3_ := Aside0.mk (Kd.R_lower (Kd.R_new' ho0 (Kd.R_lt (by (with_reducible repeat (first | apply Kd.R_alloc | apply Kd.R_drewN | apply Kd.R_drew)); exact HO133.out))) (below_size (by repeat (first | (with_reducible first | exact HB.out | apply below_alloc | apply pw_below_drewN | apply below_drew1) | exact HB.out)))); have n4_ := Aside0.mk (below_step (by repeat (first | (with_reducible first | exact HB.out | apply below_alloc | apply pw_below_drewN | apply below_drew1) | exact HB.out)) hb); clear HO126; clear HO129; clear HO133; clear HB; have HO126 := n0_; have HO129 := n1_; have HO133 := n2_; have HO136 := n3_; have HB := n4_; clear n0_ n1_ n2_ n3_ n4_; (try clear hb); (try clear hb2); (try clear hk); (try clear hi); (try clear ho0); obtain ⟨Ao41, co41, eo41⟩ := Kd.R_slice HO133.out; subst eo41; obtain ⟨Ao42, co42, eo42⟩ := Kd.R_slice HO136.out; subst eo42) | (go_at_call 15; (with_reducible refine (merkhetref14_Same.calls kj2 _ _ t131 _ _ t134 false _ ?side1 ?side2 ?side3 ?side4 A17.out).mono ?_); (case side1 => repeat (first | exact (Kd.R_reads' HO133.out).2.2 | (with_reducible refine Kd.C_alloc ?_ _) | (with_reducible refine Kd.C_drewN ?_ _) | (with_reducible refine Kd.C_drew ?_))); (case side2 => exact (Kd.R_reads' HO133.out).2.1); (case side3 => repeat (first | exact (Kd.R_reads' HO136.out).2.2 | (with_reducible refine Kd.C_alloc ?_ _) | (with_reducible refine Kd.C_drewN ?_ _) | (with_reducible refine Kd.C_drew ?_))); (case side4 => exact (Kd.R_reads' HO136.out).2.1); rintro e w' ⟨rfl, ⟨nd, rfl⟩⟩))
            go_ret
            exact ⟨by first | rfl | (simp [errW_none, errW_some] <;> rfl) | (simp [*, errW_none, errW_some] <;> rfl), by repeat (first | (with_reducible first | exact HB.out | apply below_alloc | apply pw_below_drewN | apply below_drew1) | exact HB.out)⟩
        · replace c14 := Bool.eq_false_iff.mpr c14
          subst c14
          have H1 : (some false) = some r := by rw [if_neg (show ¬ (false = true) by decide)] at H; exact H
          clear H
          have H := H1
          clear H1
          obtain rfl := Option.some.inj H
          go_wp2_with (first | ((with_reducible refine gate_callee (f := 14) rfl ?_); refine goesL_ (some 16) rfl rfl Try.func14 (by kernel_rfl) rfl #[.slice A0 l0.length c0] rfl (by (try simp only [List.map_toArray, List.map_cons, List.map_nil]); first | done | rfl | (simp only [List.length_drop, List.length_take]; rfl)) ?_; (with_reducible refine (merkhetref10_Of.calls kj2 _ _ l0 t124 _ ?side1 ?side2 A11.out).mono ?_); (case side1 => repeat (first | exact (Kd.C_below HR0.out HB.out) | (with_reducible refine Kd.C_alloc ?_ _) | (with_reducible refine Kd.C_drewN ?_ _) | (with_reducible refine Kd.C_drew ?_))); (case side2 => exact HC0.out); rintro e w43 ⟨v125, rfl, ho0, hb⟩; refine ⟨_, rfl, ?_⟩; have n0_ := Aside0.mk (Kd.R_lower ho0 (below_size (by repeat (first | (with_reducible first | exact HB.out | apply below_alloc | apply pw_below_drewN | apply below_drew1) | exact HB.out)))); have n1_ := Aside0.mk (below_step (by repeat (first | (with_reducible first | exact HB.out | apply below_alloc | apply pw_below_drewN | apply below_drew1) | exact HB.out)) hb); clear HB; have HO126 := n0_; have HB := n1_; clear n0_ n1_; (try clear hb); (try clear hb2); (try clear hk); (try clear hi); (try clear ho0); obtain ⟨Ao44, co44, eo44⟩ := Kd.R_slice HO126.out; subst eo44) | ((with_reducible refine gate_callee (f := 13) rfl ?_); refine goesL_ (some 17) rfl rfl Try.func13 (by kernel_rfl) rfl #[.slice A0 l0.length c0, .slice Ao44 t124.length co44] rfl (by (try simp only [List.map_toArray, List.map_cons, List.map_nil]); first | done | rfl | (simp only [List.length_drop, List.length_take]; rfl)) ?_; (with_reducible refine (merkhetref12_Of.calls kj2 _ _ l0 _ _ t124 t127 _ ?side1 ?side2 ?side3 ?side4 A12.out).mono ?_); (case side1 => repeat (first | exact (Kd.C_below HR0.out HB.out) | (with_reducible refine Kd.C_alloc ?_ _) | (with_reducible refine Kd.C_drewN ?_ _) | (with_reducible refine Kd.C_drew ?_))); (case side2 => exact HC0.out); (case side3 => repeat (first | exact (Kd.R_reads' HO126.out).2.2 | (with_reducible refine Kd.C_alloc ?_ _) | (with_reducible refine Kd.C_drewN ?_ _) | (with_reducible refine Kd.C_drew ?_))); (case side4 => exact (Kd.R_reads' HO126.out).2.1); rintro e w45 ⟨v128, rfl, ho0, hb⟩; refine ⟨_, rfl, ?_⟩; have n0_ := Aside0.mk (Kd.R_below (by (with_reducible repeat (first | apply Kd.R_alloc | apply Kd.R_drewN | apply Kd.R_drew)); exact HO126.out) hb); have n1_ := Aside0.mk (Kd.R_lower ho0 (below_size (by repeat (first | (with_reducible first | exact HB.out | apply below_alloc | apply pw_below_drewN | apply below_drew1) | exact HB.out)))); have n2_ := Aside0.mk (below_step (by repeat (first | (with_reducible first | exact HB.out | apply below_alloc | apply pw_below_drewN | apply below_drew1) | exact HB.out)) hb); clear HO126; clear HB; have HO126 := n0_; have HO129 := n1_; have HB := n2_; clear n0_ n1_ n2_; (try clear hb); (try clear hb2); (try clear hk); (try clear hi); (try clear ho0)) | ((with_reducible refine gate_callee (f := 12) rfl ?_); refine goesL_ (some 18) rfl rfl Try.func12 (by kernel_rfl) rfl #[] rfl (by (try simp only [List.map_toArray, List.map_cons, List.map_nil]); first | done | rfl | (simp only [List.length_drop, List.length_take]; rfl)) ?_; (with_reducible refine (merkhetlaw14_fixed.calls  false _ A13.out).mono ?_); rintro e w46 ⟨rfl, hb⟩; refine ⟨_, rfl, ?_⟩; have n0_ := Aside0.mk (Kd.R_below (by (with_reducible repeat (first | apply Kd.R_alloc | apply Kd.R_drewN | apply Kd.R_drew)); exact HO126.out) hb); have n1_ := Aside0.mk (Kd.R_below (by (with_reducible repeat (first | apply Kd.R_alloc | apply Kd.R_drewN | apply Kd.R_drew)); exact HO129.out) hb); have n2_ := Aside0.mk (below_step (by repeat (first | (with_reducible first | exact HB.out | apply below_alloc | apply pw_below_drewN | apply below_drew1) | exact HB.out)) hb); clear HO126; clear HO129; clear HB; have HO126 := n0_; have HO129 := n1_; have HB := n2_; clear n0_ n1_ n2_; (try clear hb); (try clear hb2); (try clear hk); (try clear hi)))
          go_ret
          exact ⟨by first | rfl | (simp [errW_none, errW_some] <;> rfl) | (simp [*, errW_none, errW_some] <;> rfl), by repeat (first | (with_reducible first | exact HB.out | apply below_alloc | apply pw_below_drewN | apply below_drew1) | exact HB.out)⟩

end Go.Proofs.Ytjgpggjjgimibaa.O

-- Written by wip/tools/row.py, a program of this session. Lean checks it.
namespace Go.Proofs.Ytjgpggjjgimibaa.O
open Go.RowKit Go.Proofs.YtjgpggjjgimibaaW.PrintWords Go.Proofs.YtjgpggjjgimibaaW.Open Go.Proofs.Ytjgpggjjgimibaa.Q
set_option linter.unusedVariables false

end Go.Proofs.Ytjgpggjjgimibaa.O

/- The document's parents, as a plain list. -/
namespace Go.Proofs.Ytjgpggjjgimibaa.L
open Go.RowKit Go.Proofs.Ytjgpggjjgimibaa.Q Go.Proofs.YtjgpggjjgimibaaW.PrintWords Go.Proofs.YtjgpggjjgimibaaW.PrintLast Go.Proofs.YtjgpggjjgimibaaW.PrintMore Go.Proofs.YtjgpggjjgimibaaW.Lib
set_option linter.unusedVariables false

/-- So many parents up. -/
def upP (ps : List Int) (at_ : Int) : Nat → Int
  | 0 => at_
  | n + 1 => if at_ ≥ 0 then upP ps (rd ps at_) n else at_
def inP (n : Nat) (ps : List Int) : Prop := ∀ x ∈ ps, -1 ≤ x ∧ x < n
theorem inP_rd {ps : List Int} (h : inP ps.length ps) (x : Int) (h0 : 0 ≤ x) (h1 : x < ps.length) : -1 ≤ rd ps x ∧ rd ps x < ps.length := by
  have hx : x.toNat < ps.length := by omega
  have e : rd ps x = ps[x.toNat] := by simp [rd, List.getD, hx]
  rw [e]
  exact h _ (List.getElem_mem hx)
theorem up_ev (ps : List Int) (hp : inP ps.length ps) (n : Nat) (hn : n ≤ 1000000000) : ∀ (d i : Nat) (a : Int), n - i = d → i ≤ n → -1 ≤ a → a < ps.length → Ev (fun k => merkhetref10_up.l0 k ps a (n : Int) (i : Int)) (upP ps a d) := by
  intro d
  induction d with
  | zero =>
    intro i a hd hi h0 h1
    refine Ev.succ ?_
    simp only [merkhetref10_up.l0]
    exact Ev.neg (by omega) (Ev.now _)
  | succ d ih =>
    intro i a hd hi h0 h1
    refine Ev.succ ?_
    simp only [merkhetref10_up.l0]
    refine Ev.pos (by omega) ?_
    by_cases h : a ≥ 0
    · have hr := inP_rd hp a h h1
      have h2 := ih (i + 1) (rd ps a) (by omega) (by omega) hr.1 hr.2
      refine Ev.pos h (Ev.pos h (Ev.pos h1 ?_))
      rw [wrap_id (by omega) (by omega)]
      exact Ev.cast h2 (by simp only [upP]; rw [if_pos h])
    · exact Ev.neg h (Ev.cast (Ev.now _) (by simp only [upP]; rw [if_neg h]))
theorem upf_ev (ps : List Int) (hp : inP ps.length ps) (n : Nat) (hn : n ≤ 1000000000) (a : Int) (h0 : -1 ≤ a) (h1 : a < ps.length) : Ev (fun k => merkhetref10_up.f k ps a (n : Int)) (upP ps a n) := up_ev ps hp n hn n 0 a (by omega) (by omega) h0 h1
/-- Is a place on a cycle? -/
def onP (ps : List Int) (a : Int) : Bool := (List.range ps.length).any (fun n => decide (upP ps a (n + 1) = a))
theorem on_ev (ps : List Int) (hl : ps.length ≤ 1000000) (hp : inP ps.length ps) (a : Int) (h0 : -1 ≤ a) (h1 : a < ps.length) : Ev (fun k => merkhetref10_on.f k ps a) (onP ps a) := by
  unfold merkhetref10_on.f
  have key : ∀ (d i : Nat), ps.length - i = d → i ≤ ps.length → Ev (fun k => merkhetref10_on.l0 k ps a ((i : Int) + 1)) ((List.range' i d).any (fun n => decide (upP ps a (n + 1) = a))) := by
    intro d
    induction d with
    | zero =>
      intro i hd hi
      refine Ev.succ ?_
      simp only [merkhetref10_on.l0]
      exact Ev.neg (by omega) (Ev.now _)
    | succ d ih =>
      intro i hd hi
      have h2 := ih (i + 1) (by omega) (by omega)
      have h3 := upf_ev ps hp (i + 1) (by omega) a h0 h1
      refine Ev.succ ?_
      simp only [merkhetref10_on.l0]
      refine Ev.pos (by omega) (Ev.bind h3 (Ev.ite (fun h => ?_) (fun h => ?_)))
      · refine Ev.cast (Ev.now _) ?_
        rw [List.range'_succ, List.any_cons, decide_eq_true h]; rfl
      · rw [wrap_id (by omega) (by omega)]
        refine Ev.cast h2 ?_
        rw [List.range'_succ, List.any_cons, decide_eq_false h]; rfl
  have := key ps.length 0 (by omega) (by omega)
  refine Ev.cast this ?_
  unfold onP
  rw [List.range_eq_range']
/-- The least place, from so many down, whose ID it is. -/
def scanD (l : List S42) (id : Int) : Nat → Int → Int
  | 0, p => p
  | j + 1, p => scanD l id j (if id ≠ 0 ∧ (rd_T42 l j).f1 = id then (j : Int) else p)
theorem scanD_in (l : List S42) (id : Int) : ∀ (j : Nat) (p : Int), j ≤ l.length → -1 ≤ p → p < l.length → -1 ≤ scanD l id j p ∧ scanD l id j p < l.length
  | 0, p, _, h0, h1 => ⟨h0, h1⟩
  | j + 1, p, hj, h0, h1 => by
    simp only [scanD]
    split
    · exact scanD_in l id j _ (by omega) (by omega) (by omega)
    · exact scanD_in l id j _ (by omega) h0 h1
def rawL (l : List S42) : List Int := l.map (fun s => scanD l s.f2 l.length (-1))
theorem rawL_length (l : List S42) : (rawL l).length = l.length := by simp [rawL]
theorem rawL_in (l : List S42) (h : 0 < l.length ∨ l.length = 0) : inP l.length (rawL l) := by
  intro x hx
  obtain ⟨s, hs, rfl⟩ := List.mem_map.1 hx
  exact scanD_in l s.f2 l.length (-1) (by omega) (by omega) (by omega)
/-- Is a place the least of its cycle? From a place on, so many steps. -/
def loL (ps : List Int) (i : Int) : Nat → Int → Bool
  | 0, _ => true
  | f + 1, a => if rd ps a = i then true else if rd ps a < i then false else loL ps i f (rd ps a)
def parAt (ps : List Int) (i : Int) : Int := if (onP ps i && loL ps i ps.length i) = true then -1 else rd ps i
def parL (l : List S42) : List Int := (List.range l.length).map (fun i : Nat => parAt (rawL l) i)
theorem parL_length (l : List S42) : (parL l).length = l.length := by simp [parL]
theorem par_ev (l : List S42) (hl : l.length ≤ 1000000) : Ev (fun k => merkhetref10_Of.f k l) (parL l) := by
  have hpl := rawL_length l
  have hpi : inP (rawL l).length (rawL l) := by rw [hpl]; exact rawL_in l (by omega)
  unfold merkhetref10_Of.f
  have two : ∀ (d i : Nat), l.length - i = d → i ≤ l.length → Ev (fun k => merkhetref10_Of.l2 k l (rawL l) ((parL l).take i) (i : Int)) (parL l) := by
    intro d
    induction d with
    | zero =>
      intro i hd hi
      refine Ev.succ ?_
      simp only [merkhetref10_Of.l2]
      refine Ev.neg (by omega) (Ev.cast (Ev.now _) ?_)
      rw [List.take_of_length_le (by rw [parL_length]; omega)]
    | succ d ih =>
      intro i hd hi
      have hlt : i < l.length := by omega
      have h2 := ih (i + 1) (by omega) (by omega)
      have hnext : (parL l).take (i + 1) = (parL l).take i ++ [parAt (rawL l) i] := by
        rw [List.take_succ_eq_append_getElem (by rw [parL_length]; omega)]
        simp [parL]
      have ho := on_ev (rawL l) (by omega) hpi i (by omega) (by omega)
      have htl : ((parL l).take i).length ≤ l.length := by rw [List.length_take, parL_length]; omega
      have done0 : ∀ (b : Bool) (a : Int), (if b = true then (-1 : Int) else rd (rawL l) i) = parAt (rawL l) i → Ev (fun k => merkhetref10_Of.j4 k l (rawL l) ((parL l).take i) (i : Int) b a false) (parL l) := by
        intro b a hb
        refine Ev.succ ?_
        simp only [merkhetref10_Of.j4]
        refine Ev.neg (by simp) ?_
        rw [wrap_id (by omega) (by omega)]
        cases b with
        | true =>
          refine Ev.pos rfl (Ev.pos (by omega) ?_)
          rw [if_pos rfl] at hb
          rw [hb, ← hnext]; exact h2
        | false =>
          refine Ev.neg (by simp) (Ev.pos (by omega) (Ev.pos (by omega) (Ev.pos (by omega) ?_)))
          rw [if_neg (by simp)] at hb
          rw [hb, ← hnext]; exact h2
      have off : parAt (rawL l) i = rd (rawL l) i → ∀ a, Ev (fun k => merkhetref10_Of.l3 k l (rawL l) ((parL l).take i) (i : Int) false a) (parL l) := by
        intro hb a
        refine Ev.succ ?_
        simp only [merkhetref10_Of.l3]
        exact Ev.neg (by simp) (done0 false a (by rw [if_neg (by simp), hb]))
      refine Ev.succ ?_
      simp only [merkhetref10_Of.l2]
      refine Ev.pos (by omega) (Ev.bind ho ?_)
      cases hon : onP (rawL l) i with
      | false =>
        refine off ?_ _
        unfold parAt; rw [hon]; simp
      | true =>
        -- the walk round the cycle
        have round : ∀ (n : Nat) (f : Nat) (a : Int), n < f → 0 ≤ a → a < (rawL l).length → upP (rawL l) a (n + 1) = i → (onP (rawL l) i && loL (rawL l) i (rawL l).length i) = loL (rawL l) i f a → Ev (fun k => merkhetref10_Of.l3 k l (rawL l) ((parL l).take i) (i : Int) true a) (parL l) := by
          intro n
          induction n with
          | zero =>
            intro f a hf h0 h1 hu he
            obtain ⟨f, rfl⟩ : ∃ g, f = g + 1 := ⟨f - 1, by omega⟩
            have hu2 : rd (rawL l) a = i := by simp only [upP] at hu; rw [if_pos h0] at hu; exact hu
            have hv : parAt (rawL l) i = -1 := by
              have hL : loL (rawL l) (i : Int) (f + 1) a = true := by simp only [loL]; rw [if_pos hu2]
              unfold parAt; rw [he, hL]; rfl
            refine Ev.succ ?_
            simp only [merkhetref10_Of.l3]
            refine Ev.pos trivial (Ev.pos h0 (Ev.pos h1 ?_))
            rw [hu2, bne_self_eq_false]
            exact done0 true a (by rw [if_pos rfl, hv])
          | succ n ihn =>
            intro f a hf h0 h1 hu he
            obtain ⟨f, rfl⟩ : ∃ g, f = g + 1 := ⟨f - 1, by omega⟩
            by_cases hu2 : rd (rawL l) a = i
            · have hv : parAt (rawL l) i = -1 := by
                have hL : loL (rawL l) (i : Int) (f + 1) a = true := by simp only [loL]; rw [if_pos hu2]
                unfold parAt; rw [he, hL]; rfl
              refine Ev.succ ?_
              simp only [merkhetref10_Of.l3]
              refine Ev.pos trivial (Ev.pos h0 (Ev.pos h1 ?_))
              rw [hu2, bne_self_eq_false]
              exact done0 true a (by rw [if_pos rfl, hv])
            · refine Ev.succ ?_
              simp only [merkhetref10_Of.l3]
              refine Ev.pos trivial (Ev.pos h0 (Ev.pos h1 ?_))
              rw [show (rd (rawL l) a != (i : Int)) = true from by simp [hu2]]
              refine Ev.succ ?_
              simp only [merkhetref10_Of.j4]
              refine Ev.pos trivial (Ev.pos h0 (Ev.pos h1 (Ev.ite (fun h => ?_) (fun h => ?_))))
              · refine off ?_ _
                have hL : loL (rawL l) (i : Int) (f + 1) a = false := by simp only [loL]; rw [if_neg hu2, if_pos h]
                unfold parAt; rw [he, hL]; rfl
              · have hb := inP_rd hpi a h0 h1
                refine ihn f (rd (rawL l) a) (by omega) (by omega) hb.2 ?_ ?_
                · rw [← hu]; rw [show upP (rawL l) a (n + 1 + 1) = if a ≥ 0 then upP (rawL l) (rd (rawL l) a) (n + 1) else a from rfl, if_pos h0]
                · rw [he]; simp only [loL]; rw [if_neg hu2, if_neg h]
        have hon2 := hon
        unfold onP at hon2
        obtain ⟨n, hn, hn2⟩ := List.any_eq_true.1 hon2
        exact round n (rawL l).length i (List.mem_range.1 hn) (by omega) (by omega) (of_decide_eq_true hn2) (by rw [hon]; rfl)
  have one : ∀ (d i : Nat), l.length - i = d → i ≤ l.length → Ev (fun k => merkhetref10_Of.l0 k l ((rawL l).take i) (i : Int)) (parL l) := by
    intro d
    induction d with
    | zero =>
      intro i hd hi
      refine Ev.succ ?_
      simp only [merkhetref10_Of.l0]
      rw [List.take_of_length_le (by omega)]
      exact Ev.neg (by omega) (two l.length 0 (by omega) (by omega))
    | succ d ih =>
      intro i hd hi
      have hlt : i < l.length := by omega
      have h2 := ih (i + 1) (by omega) (by omega)
      have hr : rd_T42 l (i : Int) = l[i] := by simp [rd_T42, List.getD, hlt]
      have hnext : (rawL l).take (i + 1) = (rawL l).take i ++ [scanD l (rd_T42 l (i : Int)).f2 l.length (-1)] := by
        rw [List.take_succ_eq_append_getElem (by omega), hr]
        simp [rawL]
      have scan : ∀ (j : Nat) (p : Int), j ≤ l.length → scanD l (rd_T42 l (i : Int)).f2 j p = scanD l (rd_T42 l (i : Int)).f2 l.length (-1) → Ev (fun k => merkhetref10_Of.l1 k l ((rawL l).take i) (i : Int) p ((j : Int) - 1)) (parL l) := by
        intro j
        induction j with
        | zero =>
          intro p hj he
          simp only [scanD] at he
          refine Ev.succ ?_
          simp only [merkhetref10_Of.l1]
          refine Ev.neg (by omega) (Ev.pos ?_ ?_)
          · rw [List.length_take]; omega
          · rw [he, wrap_id (by omega) (by omega), ← hnext]; exact h2
        | succ j ihj =>
          intro p hj he
          have e1 : ((j + 1 : Nat) : Int) - 1 = (j : Int) := by omega
          rw [e1]
          refine Ev.succ ?_
          simp only [merkhetref10_Of.l1]
          refine Ev.pos (by omega) (Ev.pos (by omega) (Ev.pos (by omega) ?_))
          rw [wrap_id (i := (j : Int) - 1) (by omega) (by omega)]
          simp only [scanD] at he
          by_cases hz : (rd_T42 l (i : Int)).f2 = 0
          · rw [if_neg (fun h => h.1 hz)] at he
            exact Ev.pos hz (ihj p (by omega) he)
          · refine Ev.neg hz (Ev.pos (by omega) (Ev.pos (by omega) (Ev.ite (fun h => ?_) (fun h => ?_))))
            · rw [if_pos ⟨hz, h⟩] at he
              exact ihj _ (by omega) he
            · rw [if_neg (fun h' => h h'.2)] at he
              exact ihj _ (by omega) he
      refine Ev.succ ?_
      simp only [merkhetref10_Of.l0]
      refine Ev.pos (by omega) ?_
      rw [wrap_id (by omega) (by omega)]
      exact scan l.length (-1) (by omega) rfl
  exact one l.length 0 (by omega) (by omega)
end Go.Proofs.Ytjgpggjjgimibaa.L

/- The document's pairs and edges, as plain lists. -/
namespace Go.Proofs.Ytjgpggjjgimibaa.L
open Go.RowKit Go.Proofs.Ytjgpggjjgimibaa.Q Go.Proofs.YtjgpggjjgimibaaW.PrintWords Go.Proofs.YtjgpggjjgimibaaW.PrintLast Go.Proofs.YtjgpggjjgimibaaW.PrintMore Go.Proofs.YtjgpggjjgimibaaW.Lib
set_option linter.unusedVariables false

instance (n : Nat) : DecidablePred (inP n) := fun ps => by unfold inP; infer_instance
/-- The pair of a place, if there is one. -/
def pairAt (l : List S42) (ps : List Int) (i : Int) : List S35 :=
  if 0 ≤ rd ps i ∧ (rd_T42 l i).f3 = 2 ∧ (rd_T42 l (rd ps i)).f3 = 1 ∧ mayS (rd_T42 l i) = true ∧ mayS (rd_T42 l (rd ps i)) = true then [⟨rd ps i, i⟩] else []
def pairsB (l : List S42) (ps : List Int) : List S35 :=
  if l.length = ps.length ∧ inP l.length ps then (List.range l.length).flatMap (fun i : Nat => pairAt l ps i) else []
theorem flat_le {α β : Type} (f : α → List β) (h : ∀ x, (f x).length ≤ 1) : ∀ l : List α, (l.flatMap f).length ≤ l.length
  | [] => by simp
  | x :: l => by
    have h1 := flat_le f h l
    have h2 := h x
    rw [List.flatMap_cons, List.length_append, List.length_cons]
    omega
theorem pairAt_le (l : List S42) (ps : List Int) (i : Int) : (pairAt l ps i).length ≤ 1 := by unfold pairAt; split <;> simp
theorem pairsB_length (l : List S42) (ps : List Int) : (pairsB l ps).length ≤ l.length := by
  unfold pairsB
  split
  · have := flat_le (fun i : Nat => pairAt l ps i) (fun i => pairAt_le l ps i) (List.range l.length)
    rwa [List.length_range] at this
  · simp
theorem rpairs_ev (l : List S42) (hl : l.length ≤ 1000000) (hf : ∀ s ∈ l, fitR s) (ps : List Int) (hps : ps.length ≤ 1000000) : Ev (fun k => merkhetref12_Of.f k l ps) (pairsB l ps) := by
  unfold merkhetref12_Of.f
  refine Ev.bind (a := []) (Ev.now _) ?_
  by_cases he : ¬ (l.length : Int) = (ps.length : Int)
  · refine Ev.neg he (Ev.cast (Ev.now _) ?_)
    unfold pairsB; rw [if_neg (fun h => he (by omega))]
  replace he := Decidable.not_not.1 he
  refine Ev.pos he ?_
  have hen : l.length = ps.length := by omega
  have two : inP l.length ps → ∀ (d i : Nat), l.length - i = d → i ≤ l.length → Ev (fun k => merkhetref12_Of.l1 k l ps ((List.range i).flatMap (fun i : Nat => pairAt l ps i)) (i : Int)) (pairsB l ps) := by
    intro hin d
    induction d with
    | zero =>
      intro i hd hi
      refine Ev.succ ?_
      simp only [merkhetref12_Of.l1]
      refine Ev.neg (by omega) (Ev.cast (Ev.now _) ?_)
      unfold pairsB; rw [if_pos ⟨hen, hin⟩, show i = l.length by omega]
    | succ d ih =>
      intro i hd hi
      have hlt : i < l.length := by omega
      have h2 := ih (i + 1) (by omega) (by omega)
      rw [List.range_succ, List.flatMap_append] at h2
      have hnl : ((List.range i).flatMap (fun i : Nat => pairAt l ps i)).length ≤ i := by
        have := flat_le (fun i : Nat => pairAt l ps i) (fun i => pairAt_le l ps i) (List.range i)
        rwa [List.length_range] at this
      have hri := inP_rd (ps := ps) (by rw [← hen]; exact hin) i (by omega) (by omega)
      have fin : ∀ (b : Bool), pairAt l ps i = (if b = true then [⟨rd ps i, i⟩] else []) → Ev (fun k => merkhetref12_Of.j2 k l ps ((List.range i).flatMap (fun i : Nat => pairAt l ps i)) (i : Int) (rd ps i) b) (pairsB l ps) := by
        intro b hb
        simp only [List.flatMap_cons, List.flatMap_nil, List.append_nil, hb] at h2
        refine Ev.succ ?_
        simp only [merkhetref12_Of.j2]
        rw [wrap_id (by omega) (by omega)]
        cases b with
        | true => exact Ev.pos rfl (Ev.pos (by omega) h2)
        | false =>
          refine Ev.neg (by simp) ?_
          simp only [Bool.false_eq_true, if_false, List.append_nil] at h2
          exact h2
      have no : pairAt l ps i = [] → Ev (fun k => merkhetref12_Of.j2 k l ps ((List.range i).flatMap (fun i : Nat => pairAt l ps i)) (i : Int) (rd ps i) false) (pairsB l ps) := fun h => fin false (by rw [h]; rfl)
      have hmi : rd_T42 l (i : Int) ∈ l := by
        rw [show rd_T42 l (i : Int) = l[i] by simp [rd_T42, List.getD, hlt]]
        exact List.getElem_mem _
      refine Ev.succ ?_
      simp only [merkhetref12_Of.l1]
      refine Ev.pos (by omega) (Ev.pos (by omega) (Ev.pos (by omega) (Ev.ite (fun c1 => Ev.ite (fun c2 => Ev.pos c1 (Ev.pos (by omega) (Ev.ite (fun c3 => ?_) (fun c3 => no ?_)))) (fun c2 => no ?_)) (fun c1 => no ?_))))
      · have hmp : rd_T42 l (rd ps i) ∈ l := by
          have hx : (rd ps i).toNat < l.length := by omega
          rw [show rd_T42 l (rd ps i) = l[(rd ps i).toNat] by simp [rd_T42, List.getD, hx]]
          exact List.getElem_mem _
        refine Ev.bind (rmayS_ev _ (hf _ hmi)) (Ev.ite (fun c4 => Ev.bind (rmayS_ev _ (hf _ hmp)) (fin _ ?_)) (fun c4 => no ?_))
        · unfold pairAt
          by_cases c5 : mayS (rd_T42 l (rd ps i)) = true
          · rw [if_pos ⟨c1, c2, c3, c4, c5⟩, if_pos c5]
          · rw [if_neg (fun h => c5 h.2.2.2.2), if_neg c5]
        · unfold pairAt; rw [if_neg (fun h => c4 h.2.2.2.1)]
      · unfold pairAt; rw [if_neg (fun h => c3 h.2.2.1)]
      · unfold pairAt; rw [if_neg (fun h => c2 h.2.1)]
      · unfold pairAt; rw [if_neg (fun h => c1 h.1)]
  have one : ∀ (d i : Nat), l.length - i = d → i ≤ l.length → (∀ x ∈ ps.take i, -1 ≤ x ∧ x < (l.length : Int)) → Ev (fun k => merkhetref12_Of.l0 k l ps [] (i : Int)) (pairsB l ps) := by
    intro d
    induction d with
    | zero =>
      intro i hd hi hin
      rw [List.take_of_length_le (by omega)] at hin
      refine Ev.succ ?_
      simp only [merkhetref12_Of.l0]
      exact Ev.neg (by omega) (two hin l.length 0 (by omega) (by omega))
    | succ d ih =>
      intro i hd hi hin
      have hlt : i < ps.length := by omega
      have hr : rd ps (i : Int) = ps[i] := by simp [rd, List.getD, hlt]
      have bad : ¬ (-1 ≤ ps[i] ∧ ps[i] < (l.length : Int)) → pairsB l ps = [] := by
        intro h
        unfold pairsB
        rw [if_neg (fun h2 => h (h2.2 _ (List.getElem_mem hlt)))]
      refine Ev.succ ?_
      simp only [merkhetref12_Of.l0, hr]
      refine Ev.pos (by omega) (Ev.pos (by omega) (Ev.pos (by omega) (Ev.ite (fun c1 => ?_) (fun c1 => Ev.ite (fun c2 => ?_) (fun c2 => ?_)))))
      · rw [bad (by omega)]; exact Ev.now _
      · rw [bad (by omega)]; exact Ev.now _
      · rw [wrap_id (by omega) (by omega)]
        refine ih (i + 1) (by omega) (by omega) ?_
        intro x hx
        rw [List.take_succ_eq_append_getElem hlt] at hx
        rcases List.mem_append.1 hx with h | h
        · exact hin x h
        · rw [List.mem_singleton.1 h]; omega
  exact one l.length 0 (by omega) (by omega) (by simp)
theorem sameE_self (a : List S37) (ha : a.length ≤ 1000000000) : Ev (fun k => merkhetref14_Same.f k a a) true := by
  unfold merkhetref14_Same.f
  refine Ev.pos rfl ?_
  have key : ∀ (d i : Nat), a.length - i = d → i ≤ a.length → Ev (fun k => merkhetref14_Same.l0 k a a (i : Int)) true := by
    intro d
    induction d with
    | zero =>
      intro i hd hi
      refine Ev.succ ?_
      simp only [merkhetref14_Same.l0]
      exact Ev.neg (by omega) (Ev.now _)
    | succ d ih =>
      intro i hd hi
      have h2 := ih (i + 1) (by omega) (by omega)
      refine Ev.succ ?_
      simp only [merkhetref14_Same.l0]
      refine Ev.pos (by omega) (Ev.pos (by omega) (Ev.pos (by omega) (Ev.neg (by simp) ?_)))
      rw [wrap_id (by omega) (by omega)]
      exact h2
  exact key a.length 0 (by omega) (by omega)
end Go.Proofs.Ytjgpggjjgimibaa.L

/- What the document's order of texts comes to, as plain Lean. -/
namespace Go.Proofs.Ytjgpggjjgimibaa.L
open Go.RowKit Go.Proofs.Ytjgpggjjgimibaa.Q Go.Proofs.YtjgpggjjgimibaaW.PrintWords Go.Proofs.YtjgpggjjgimibaaW.PrintLast Go.Proofs.YtjgpggjjgimibaaW.PrintMore Go.Proofs.YtjgpggjjgimibaaW.Lib
set_option linter.unusedVariables false

abbrev Span := S42
theorem rdS_nat (l : List Span) (i : Nat) (h : i < l.length) : rd_T42 l (i : Int) = l[i] := by simp [rd_T42, List.getD, h]
theorem data_drop (s : ByteArray) (i : Nat) (h : i < s.size) : ∃ x : UInt8, s.data.toList.drop i = x :: s.data.toList.drop (i + 1) ∧ (x.toNat : Int) = bt s (i : Int) := by
  have h' : i < s.data.toList.length := by simpa using h
  refine ⟨s.data.toList[i], List.drop_eq_getElem_cons h', ?_⟩
  rw [← bt_at s (i : Int) (by simpa using h)]
  simp [ByteArray.getElem_eq_getElem_data]
theorem text_l0 (a b : ByteArray) (ha : a.size ≤ 140737488351232) (hb : b.size ≤ 140737488351232) : ∀ (d i : Nat), a.size - i = d → i ≤ a.size → i ≤ b.size →
    Ev (fun k => merkhetref01_Text.l0 k a b (i : Int)) (Go.Lib.compareBytes (a.data.toList.drop i) (b.data.toList.drop i)) := by
  have stop : ∀ i : Nat, i ≤ a.size → i ≤ b.size → ¬ (i < a.size ∧ i < b.size) → (if (a.size : Int) < (b.size : Int) then (-1 : Int) else if (a.size : Int) > (b.size : Int) then 1 else 0) = Go.Lib.compareBytes (a.data.toList.drop i) (b.data.toList.drop i) := by
    intro i h1 h2 h3
    by_cases e1 : i < a.size
    · obtain ⟨x, hx, _⟩ := data_drop a i e1
      rw [hx, List.drop_of_length_le (l := b.data.toList) (by simp; omega), if_neg (by omega), if_pos (by omega)]; rfl
    · by_cases e2 : i < b.size
      · obtain ⟨x, hx, _⟩ := data_drop b i e2
        rw [hx, List.drop_of_length_le (l := a.data.toList) (by simp; omega), if_pos (by omega)]; rfl
      · rw [List.drop_of_length_le (l := a.data.toList) (by simp; omega), List.drop_of_length_le (l := b.data.toList) (by simp; omega), if_neg (by omega), if_neg (by omega)]; rfl
  have fin : ∀ i : Nat, i ≤ a.size → i ≤ b.size → ¬ (i < a.size ∧ i < b.size) → Ev (fun k => merkhetref01_Text.j1 k a b (i : Int) false) (Go.Lib.compareBytes (a.data.toList.drop i) (b.data.toList.drop i)) := by
    intro i h1 h2 h3
    refine Ev.step (f := fun _ => if (a.size : Int) < (b.size : Int) then some (-1) else if (a.size : Int) > (b.size : Int) then some 1 else some 0) (fun k => by simp [merkhetref01_Text.j1]) ?_
    rw [← stop i h1 h2 h3]
    refine Ev.ite (fun e => ?_) (fun e => ?_)
    · rw [if_pos e]; exact Ev.now _
    · rw [if_neg e]
      refine Ev.ite (fun e => ?_) (fun e => ?_)
      · rw [if_pos e]; exact Ev.now _
      · rw [if_neg e]; exact Ev.now _
  intro d
  induction d with
  | zero =>
    intro i hd h1 h2
    refine Ev.step (f := fun k => merkhetref01_Text.j1 k a b (i : Int) false) (fun k => by simp only [merkhetref01_Text.l0]; rw [if_neg (by omega)]) (fin i h1 h2 (by omega))
  | succ d ih =>
    intro i hd h1 h2
    refine Ev.step (f := fun k => merkhetref01_Text.j1 k a b (i : Int) (decide ((i : Int) < (b.size : Int)))) (fun k => by simp only [merkhetref01_Text.l0]; rw [if_pos (by omega)]) ?_
    by_cases e : i < b.size
    · rw [decide_eq_true (by omega : (i : Int) < (b.size : Int))]
      obtain ⟨x, hx, ex⟩ := data_drop a i (by omega)
      obtain ⟨y, hy, ey⟩ := data_drop b i e
      refine Ev.step (f := fun k => if bt a (i : Int) < bt b (i : Int) then some (-1) else if bt a (i : Int) > bt b (i : Int) then some 1 else merkhetref01_Text.l0 k a b ((i + 1 : Nat) : Int)) (fun k => ?_) ?_
      · simp only [merkhetref01_Text.j1]
        rw [if_pos trivial, if_pos (by omega), if_pos (by omega), if_pos (by omega), wrap_id (by omega) (by omega)]; rfl
      · rw [hx, hy]
        simp only [Go.Lib.compareBytes, UInt8.lt_iff_toNat_lt]
        refine Ev.ite (fun e1 => ?_) (fun e1 => ?_)
        · rw [if_pos (by omega)]; exact Ev.now _
        · rw [if_neg (by omega)]
          refine Ev.ite (fun e2 => ?_) (fun e2 => ?_)
          · rw [if_pos (by omega)]; exact Ev.now _
          · rw [if_neg (by omega)]; exact ih (i + 1) (by omega) (by omega) (by omega)
    · rw [decide_eq_false (by omega : ¬ (i : Int) < (b.size : Int))]
      exact fin i h1 h2 (by omega)
theorem text_ev (a b : ByteArray) (ha : a.size ≤ 140737488351232) (hb : b.size ≤ 140737488351232) : Ev (fun k => merkhetref01_Text.f k a b) (cmpB a b) := by
  have := text_l0 a b ha hb a.size 0 (by omega) (by omega) (by omega)
  simpa [merkhetref01_Text.f, cmpB] using this
end Go.Proofs.Ytjgpggjjgimibaa.L

/- The document's hosts, as plain lists. -/
namespace Go.Proofs.Ytjgpggjjgimibaa.L
open Go.RowKit Go.Proofs.Ytjgpggjjgimibaa.Q Go.Proofs.YtjgpggjjgimibaaW.PrintWords Go.Proofs.YtjgpggjjgimibaaW.PrintLast Go.Proofs.YtjgpggjjgimibaaW.PrintMore Go.Proofs.YtjgpggjjgimibaaW.Lib
set_option linter.unusedVariables false

/-- The place of a text; -1. -/
def placeZ (l : List ByteArray) (s : ByteArray) : Int := if numB l s < l.length then (numB l s : Int) else -1
theorem numB_cons (x : ByteArray) (l : List ByteArray) (s : ByteArray) : numB (x :: l) s = if x = s then 0 else numB l s + 1 := by
  unfold numB
  rw [List.findIdx_cons]
  by_cases h : x = s
  · simp [h]
  · simp [h]
theorem text_eq {s t : ByteArray} : s.toList = t.toList ↔ s = t := by
  rw [toList_data, toList_data]
  constructor
  · intro h
    cases s; cases t
    simp_all
  · rintro rfl; rfl
theorem place_ev (l : List ByteArray) (s : ByteArray) (hl : l.length ≤ 1000000000) : Ev (fun k => merkhetref09_Place.f k l s) (placeZ l s) := by
  have key : ∀ (d i : Nat), l.length - i = d → i ≤ l.length → Ev (fun k => merkhetref09_Place.l0 k l s (i : Int)) (if numB (l.drop i) s < (l.drop i).length then ((i + numB (l.drop i) s : Nat) : Int) else -1) := by
    intro d
    induction d with
    | zero =>
      intro i hd hi
      rw [List.drop_of_length_le (by omega), if_neg (by simp)]
      refine Ev.succ ?_
      simp only [merkhetref09_Place.l0]
      exact Ev.neg (by omega) (Ev.now _)
    | succ d ih =>
      intro i hd hi
      have hil : i < l.length := by omega
      have hr : rdOf ByteArray.empty l (i : Int) = l[i] := by simp [rdOf, List.getD, hil]
      refine Ev.succ ?_
      simp only [merkhetref09_Place.l0, hr]
      refine Ev.pos (by omega) (Ev.pos (by omega) ?_)
      rw [List.drop_eq_getElem_cons hil, numB_cons, List.length_cons]
      refine Ev.ite (fun h => ?_) (fun h => ?_)
      · rw [if_pos (text_eq.1 h), if_pos (by omega)]
        exact Ev.cast (Ev.now _) (by simp)
      · rw [if_neg (fun h2 => h (text_eq.2 h2)), wrap_id (by omega) (by omega)]
        have h1 := ih (i + 1) (by omega) (by omega)
        refine Ev.cast h1 ?_
        by_cases h3 : numB (l.drop (i + 1)) s < (l.drop (i + 1)).length
        · rw [if_pos h3, if_pos (by omega)]; congr 1; omega
        · rw [if_neg h3, if_neg (by omega)]
  have := key l.length 0 (by omega) (by omega)
  unfold merkhetref09_Place.f placeZ
  simpa using this

theorem placeZ_mem (l : List ByteArray) (s : ByteArray) : 0 ≤ placeZ l s ↔ s ∈ l := by
  unfold placeZ
  constructor
  · intro h
    by_cases h2 : numB l s < l.length
    · have := List.findIdx_getElem (p := fun h => decide (h = s)) (w := h2)
      have h3 : l[numB l s] = s := of_decide_eq_true this
      rw [← h3]; exact List.getElem_mem _
    · rw [if_neg h2] at h; omega
  · intro h
    rw [if_pos (numB_lt h)]; omega
theorem hostsB_fold (l : List Span) : (l.map (·.f4)).foldl (insH cmpB) [] = hostsB l := by
  obtain ⟨h1, h2, _⟩ := foldH cmpB_is (l.map (·.f4)) [] List.Pairwise.nil
  refine h1.one cmpB_is (hostsB_rise l) fun x => ?_
  rw [h2, hostsB_mem, List.mem_map]
  simp
theorem rhosts_ev (x : List Span) (hx : x.length ≤ 1000000) (hw : ∀ s ∈ x, s.f4.size ≤ 140737488351232) : Ev (fun k => merkhetref09_Hosts.f k x) (hostsB x) := by
  have key : ∀ (d i : Nat), x.length - i = d → i ≤ x.length → ∀ a : List ByteArray, a.length ≤ i → (∀ s ∈ a, s.size ≤ 140737488351232) → Ev (fun k => merkhetref09_Hosts.l0 k x a (i : Int)) (((x.drop i).map (·.f4)).foldl (insH cmpB) a) := by
    intro d
    induction d with
    | zero =>
      intro i hd hi a ha _
      refine Ev.succ ?_
      simp only [merkhetref09_Hosts.l0]
      rw [List.drop_of_length_le (by omega)]
      exact Ev.neg (by omega) (Ev.now _)
    | succ d ih =>
      intro i hd hi a ha haw
      have hix : i < x.length := by omega
      have ws := hw x[i] (List.getElem_mem hix)
      rw [List.drop_eq_getElem_cons hix, List.map_cons, List.foldl_cons]
      have hins : (insH cmpB a x[i].f4).length ≤ i + 1 := by have := insH_length (c := cmpB) a x[i].f4; omega
      have hinw : ∀ s ∈ insH cmpB a x[i].f4, s.size ≤ 140737488351232 := by
        intro s hs
        rcases (insH_mem a x[i].f4 s).1 hs with hs | rfl
        · exact haw s hs
        · exact ws
      have next := ih (i + 1) (by omega) (by omega) _ hins hinw
      generalize hres : ((x.drop (i + 1)).map (·.f4)).foldl (insH cmpB) (insH cmpB a x[i].f4) = res at next
      refine Ev.succ ?_
      simp only [merkhetref09_Hosts.l0, rdS_nat x i hix]
      refine Ev.pos (by omega) (Ev.pos (by omega) (Ev.bind (place_ev a x[i].f4 (by omega)) (Ev.ite (fun h => ?_) (fun h => ?_))))
      · have hm := (placeZ_mem a x[i].f4).1 h
        have hst : insH cmpB a x[i].f4 = a := by unfold insH; rw [if_pos hm]
        rw [hst] at next
        rw [wrap_id (by omega) (by omega)]
        exact next
      · have hm : x[i].f4 ∉ a := fun h2 => h ((placeZ_mem a x[i].f4).2 h2)
        have hst : insH cmpB a x[i].f4 = a.take (posG cmpB a x[i].f4 a.length) ++ x[i].f4 :: a.drop (posG cmpB a x[i].f4 a.length) := by unfold insH; rw [if_neg hm]
        rw [hst] at next
        have fin : ∀ j : Nat, j ≤ a.length → posG cmpB a x[i].f4 a.length = j → Ev (fun k => if 0 ≤ (j : Int) then (if (j : Int) ≤ (a.length : Int) then ((some (a.drop (j : Int).toNat : List ByteArray)).bind fun y227 => (if ([] : List ByteArray).length + y227.length < 8796093022208 then ((some (([] : List ByteArray) ++ y227 : List ByteArray)).bind fun y231 => ((some (a.take (j : Int).toNat : List ByteArray)).bind fun y234 => (if y234.length < 8796093022208 then ((some (y234 ++ [x[i].f4] : List ByteArray)).bind fun y238 => (if y238.length + y231.length < 8796093022208 then (merkhetref09_Hosts.l0 k x (y238 ++ y231) (wrap64 ((i : Int) + 1))) else (none))) else (none)))) else (none))) else (none)) else (none)) res := by
          intro j hj hp
          rw [hp] at next
          refine Ev.pos (by omega) (Ev.pos (by omega) ?_)
          simp only [Option.bind_some, Int.toNat_natCast]
          refine Ev.pos (by simp; omega) (Ev.pos (by simp; omega) (Ev.pos (by simp; omega) ?_))
          rw [wrap_id (by omega) (by omega)]
          refine Ev.congr (fun k => ?_) next
          simp
        have inner : ∀ j : Nat, j ≤ a.length → posG cmpB a x[i].f4 a.length = posG cmpB a x[i].f4 j → Ev (fun k => merkhetref09_Hosts.l1 k x a (i : Int) (j : Int)) res := by
          intro j
          induction j with
          | zero =>
            intro hj hp
            refine Ev.succ ?_
            simp only [merkhetref09_Hosts.l1, rdS_nat x i hix]
            refine Ev.neg (by omega) ?_
            simp only [Option.bind_some]
            have := fin 0 (by omega) (by rw [hp]; rfl)
            simp only [Option.bind_some] at this
            refine Ev.congr (fun k => ?_) this
            simp only [show (0 : Int) ≤ (i : Int) by omega, show (i : Int) < (x.length : Int) by omega, if_true]
          | succ j ihj =>
            intro hj hp
            have hja : j < a.length := by omega
            have hr : rdOf ByteArray.empty a (j : Int) = a[j] := by simp [rdOf, List.getD, hja]
            have hg : a.getD j x[i].f4 = a[j] := by simp [List.getD, hja]
            refine Ev.succ ?_
            simp only [merkhetref09_Hosts.l1]
            refine Ev.pos (by omega) ?_
            rw [wrap_id (by omega) (by omega), show ((j + 1 : Nat) : Int) - 1 = (j : Int) by omega]
            refine Ev.pos (by omega) (Ev.pos (by omega) (Ev.pos (by omega) (Ev.pos (by omega) ?_)))
            simp only [rdS_nat x i hix, hr]
            refine Ev.bind (text_ev a[j] x[i].f4 (haw _ (List.getElem_mem _)) ws) (Ev.ite (fun e => ?_) (fun e => ?_))
            · exact ihj (by omega) (by rw [hp, posG_succ, hg, if_pos e])
            · simp only [Option.bind_some]
              have := fin (j + 1) (by omega) (by rw [hp, posG_succ, hg, if_neg e])
              simp only [Option.bind_some] at this
              exact this
        exact inner a.length (Nat.le_refl _) rfl
  have := key x.length 0 (by omega) (by omega) [] (by simp) (by simp)
  rw [List.drop_zero, hostsB_fold] at this
  exact this
end Go.Proofs.Ytjgpggjjgimibaa.L

/- The document's numbers and groups of hosts, as plain lists. -/
namespace Go.Proofs.Ytjgpggjjgimibaa.L
open Go.RowKit Go.Proofs.Ytjgpggjjgimibaa.Q Go.Proofs.YtjgpggjjgimibaaW.PrintWords Go.Proofs.YtjgpggjjgimibaaW.PrintLast Go.Proofs.YtjgpggjjgimibaaW.PrintMore Go.Proofs.YtjgpggjjgimibaaW.Lib
set_option linter.unusedVariables false

theorem rof13_ev (x : List Span) (hx : x.length ≤ 1000000) (hw : ∀ s ∈ x, s.f4.size ≤ 140737488351232) : Ev (fun k => merkhetref13_Of.f k x) (numsL x) := by
  have key : ∀ (d i : Nat), x.length - i = d → i ≤ x.length → Ev (fun k => merkhetref13_Of.l0 k x (hostsB x) ((numsL x).take i) (i : Int)) (numsL x) := by
    intro d
    induction d with
    | zero =>
      intro i hd hi
      refine Ev.succ ?_
      simp only [merkhetref13_Of.l0]
      rw [List.take_of_length_le (by unfold numsL; rw [List.length_map]; omega)]
      exact Ev.neg (by omega) (Ev.now _)
    | succ d ih =>
      intro i hd hi
      have hix : i < x.length := by omega
      have hm : x[i].f4 ∈ hostsB x := (hostsB_mem x _).2 ⟨x[i], List.getElem_mem hix, rfl⟩
      have hp : placeZ (hostsB x) x[i].f4 = (numB (hostsB x) x[i].f4 : Int) := by unfold placeZ; rw [if_pos (numB_lt hm)]
      have hn : (numsL x).take (i + 1) = (numsL x).take i ++ [(numB (hostsB x) x[i].f4 : Int)] := by
        rw [List.take_succ_eq_append_getElem (by unfold numsL; rw [List.length_map]; exact hix)]
        congr 2
        unfold numsL
        rw [List.getElem_map]
      refine Ev.succ ?_
      simp only [merkhetref13_Of.l0, rdS_nat x i hix]
      refine Ev.pos (by omega) (Ev.pos (by omega) (Ev.bind (place_ev (hostsB x) x[i].f4 (by have := hostsB_length x; omega)) (Ev.pos (by simp; omega) ?_)))
      rw [wrap_id (by omega) (by omega), hp, ← hn]
      exact ih (i + 1) (by omega) (by omega)
  unfold merkhetref13_Of.f
  refine Ev.bind (rhosts_ev x hx hw) ?_
  have := key x.length 0 (by omega) (by omega)
  simpa using this

end Go.Proofs.Ytjgpggjjgimibaa.L

/- The document's edges, as a plain list. -/
namespace Go.Proofs.Ytjgpggjjgimibaa.O
open Go.RowKit Go.Proofs.Ytjgpggjjgimibaa.Q Go.Proofs.YtjgpggjjgimibaaW.PrintWords Go.Proofs.YtjgpggjjgimibaaW.PrintLast Go.Proofs.YtjgpggjjgimibaaW.PrintMore Go.Proofs.YtjgpggjjgimibaaW.Lib Go.Proofs.Ytjgpggjjgimibaa.L
set_option linter.unusedVariables false

theorem edgesB_le (m : S42 → Bool) (l : List S42) (nums : List Int) : ∀ ps : List S35, (edgesB m l nums ps).length ≤ 2 * ps.length
  | [] => by simp [edgesB]
  | p :: ps => by
    have ih := edgesB_le m l nums ps
    have h1 : (edgesAt m l nums p).length ≤ 2 := by unfold edgesAt; split <;> simp
    have h2 : edgesB m l nums (p :: ps) = edgesAt m l nums p ++ edgesB m l nums ps := by simp [edgesB]
    rw [h2, List.length_append, List.length_cons]
    omega
theorem redges_ev (l : List S42) (hl : l.length ≤ 1000000) (hf : ∀ s ∈ l, fitR s) (ps : List S35) (hps : ps.length ≤ 1000000) : Ev (fun k => merkhetref14_Of.f k l ps) (edgesB mayS l (numsL l) ps) := by
  unfold merkhetref14_Of.f
  refine Ev.bind (rof13_ev l hl (fun s hs => (hf s hs).1.2.1)) ?_
  have hnl : (numsL l).length = l.length := by unfold numsL; rw [List.length_map]
  generalize numsL l = nums at *
  have key : ∀ (d i : Nat), ps.length - i = d → i ≤ ps.length → Ev (fun k => merkhetref14_Of.l0 k l ps nums (edgesB mayS l nums (ps.take i)) (i : Int)) (edgesB mayS l nums ps) := by
    intro d
    induction d with
    | zero =>
      intro i hd hi
      refine Ev.succ ?_
      simp only [merkhetref14_Of.l0]
      refine Ev.neg (by omega) (Ev.cast (Ev.now _) ?_)
      rw [List.take_of_length_le (by omega)]
    | succ d ih =>
      intro i hd hi
      have hlt : i < ps.length := by omega
      have h2 := ih (i + 1) (by omega) (by omega)
      have hr : rd_T35 ps (i : Int) = ps[i] := by simp [rd_T35, List.getD, hlt]
      rw [List.take_succ_eq_append_getElem hlt, edgesB_snoc] at h2
      have hle := edgesB_le mayS l nums (ps.take i)
      rw [List.length_take] at hle
      refine Ev.succ ?_
      simp only [merkhetref14_Of.l0, hr]
      generalize ps[i] = p at *
      refine Ev.pos (by omega) (Ev.pos (by omega) (Ev.bind (a := gapsB mayS l p.f0 p.f1) (Ev.const ?_) ?_))
      · unfold merkhetref12_Gaps.f; rw [if_pos hf]
      · rw [wrap_id (by omega) (by omega)]
        refine Ev.ite (fun c => ?_) (fun c => ?_)
        · obtain ⟨i0, i1, i2, i3⟩ := gapsB_in _ _ _ _ c
          have hea : edgesAt mayS l nums p = [⟨rd nums p.f1, rd nums p.f0, (gapsB mayS l p.f0 p.f1).1, p, false⟩, ⟨rd nums p.f0, rd nums p.f1, (gapsB mayS l p.f0 p.f1).2.1, p, true⟩] := by unfold edgesAt; rw [if_pos c]
          rw [hea] at h2
          refine Ev.pos i2 (Ev.pos (by omega) (Ev.pos i0 (Ev.pos (by omega) (Ev.pos (by omega) (Ev.bind (Ev.now _) (Ev.pos ?_ ?_))))))
          · rw [List.length_append, List.length_singleton]; omega
          · rw [List.append_assoc]
            exact h2
        · have hea : edgesAt mayS l nums p = [] := by unfold edgesAt; rw [if_neg c]
          rw [hea, List.append_nil] at h2
          exact h2
  exact key ps.length 0 (by omega) (by omega)
end Go.Proofs.Ytjgpggjjgimibaa.O

/- The guard of layer 4, as plain lists. -/
namespace Go.Proofs.Ytjgpggjjgimibaa.L
open Go.RowKit Go.Proofs.Ytjgpggjjgimibaa.Q Go.Proofs.YtjgpggjjgimibaaW.PrintWords Go.Proofs.YtjgpggjjgimibaaW.PrintLast Go.Proofs.YtjgpggjjgimibaaW.PrintMore Go.Proofs.YtjgpggjjgimibaaW.Lib
set_option linter.unusedVariables false

theorem great_ev (l : List Span) : ∃ b, Ev (fun k => merkhetlaw04_Great.f k l) b ∧ (b = false → l.length ≤ 60 ∧ ∀ x ∈ l, x.f4.size ≤ 100 ∧ x.f5.size ≤ 100) := by
  unfold merkhetlaw04_Great.f
  by_cases h : (l.length : Int) > 60
  · exact ⟨true, Ev.pos h (Ev.now _), by simp⟩
  · have key : ∀ (d i : Nat), l.length - i = d → i ≤ l.length → ∃ b, Ev (fun k => merkhetlaw04_Great.l0 k l (l.length : Int) (i : Int)) b ∧ (b = false → ∀ x ∈ l.drop i, x.f4.size ≤ 100 ∧ x.f5.size ≤ 100) := by
      intro d
      induction d with
      | zero =>
        intro i hd hi
        refine ⟨false, Ev.succ ?_, fun _ x hx => ?_⟩
        · simp only [merkhetlaw04_Great.l0]
          exact Ev.neg (by omega) (Ev.now _)
        · rw [List.drop_of_length_le (by omega)] at hx; cases hx
      | succ d ih =>
        intro i hd hi
        have hil : i < l.length := by omega
        obtain ⟨b, hb, hb2⟩ := ih (i + 1) (by omega) (by omega)
        by_cases h4 : ((l[i].f4.size : Nat) : Int) > 100
        · refine ⟨true, Ev.succ ?_, by simp⟩
          simp only [merkhetlaw04_Great.l0, rdS_nat l i hil]
          exact Ev.pos (by omega) (Ev.pos (by omega) (Ev.pos (by omega) (Ev.pos h4 (Ev.now _))))
        · by_cases h5 : ((l[i].f5.size : Nat) : Int) > 100
          · refine ⟨true, Ev.succ ?_, by simp⟩
            simp only [merkhetlaw04_Great.l0, rdS_nat l i hil]
            exact Ev.pos (by omega) (Ev.pos (by omega) (Ev.pos (by omega) (Ev.neg h4 (Ev.pos h5 (Ev.now _)))))
          · refine ⟨b, Ev.succ ?_, fun e x hx => ?_⟩
            · simp only [merkhetlaw04_Great.l0, rdS_nat l i hil]
              refine Ev.pos (by omega) (Ev.pos (by omega) (Ev.pos (by omega) (Ev.neg h4 (Ev.neg h5 ?_))))
              rw [wrap_id (by omega) (by omega)]
              exact hb
            · rw [List.drop_eq_getElem_cons hil] at hx
              rcases List.mem_cons.1 hx with rfl | hx
              · omega
              · exact hb2 e x hx
    obtain ⟨b, hb, hb2⟩ := key l.length 0 (by omega) (by omega)
    refine ⟨b, Ev.neg h hb, fun e => ⟨by omega, fun x hx => hb2 e x (by simpa using hx)⟩⟩

end Go.Proofs.Ytjgpggjjgimibaa.L

/- BoundOf, the plain part: the edges of pairs are the document's. -/
namespace Go.Proofs.Ytjgpggjjgimibaa.Pure
set_option linter.unusedVariables false
open Go.RowKit Go.Proofs.Ytjgpggjjgimibaa.Q Go.Proofs.Ytjgpggjjgimibaa.O Go.Proofs.YtjgpggjjgimibaaW.PrintWords Go.Proofs.YtjgpggjjgimibaaW.PrintLast Go.Proofs.YtjgpggjjgimibaaW.PrintMore Go.Proofs.YtjgpggjjgimibaaW.Lib Go.Proofs.Ytjgpggjjgimibaa.L

theorem fit_wf {s : S42} (h : wf42 s) : fitR s := by
  refine ⟨⟨h.2.1, h.2.2.2.2.1, h.2.2.2.2.2.1⟩, ?_⟩
  have := h.2.2.2.1
  simp [Lit.wf, IntKind.min, IntKind.max, IntKind.signed, IntKind.bits] at this
  exact this.1
theorem BoundOf (l0 : List (S42)) (l1 : List (S35)) (w0 : (l0.length ≤ maxLen ∧ l0.length * 80 ≤ reachBytes ∧ ∀ x ∈ l0, wf42 x)) (w1 : (l1.length ≤ maxLen ∧ l1.length * 16 ≤ reachBytes ∧ ∀ x ∈ l1, wf35 x)) : ∃ k, merkhetlaw14_BoundOf.f k l0 l1 = some true := by
  obtain ⟨_, _, hw⟩ := w0
  refine Ev.rounds (g := fun k => merkhetlaw14_BoundOf.f k l0 l1) ?_
  unfold merkhetlaw14_BoundOf.f
  have hfr : ∀ s ∈ l0, fitR s := fun s hs => fit_wf (hw s hs)
  have hf : ∀ s ∈ l0, fitS s := fun s hs => (hfr s hs).1
  have fx : Ev (fun _ => merkhetlaw14_fixed.f) true := Ev.now _
  have skip : Ev (fun k => merkhetlaw14_BoundOf.j0 k l0 l1 true) true := by
    refine Ev.succ ?_
    simp only [merkhetlaw14_BoundOf.j0]
    exact Ev.pos trivial (Ev.bind fx (Ev.now _))
  obtain ⟨b, hb, hb2⟩ := great_ev l0
  refine Ev.bind hb (Ev.ite (fun h => skip) (fun h => ?_))
  obtain ⟨h60, _⟩ := hb2 (by simpa using h)
  by_cases h2 : (l1.length : Int) > 60
  · rw [decide_eq_true h2]; exact skip
  rw [decide_eq_false h2]
  refine Ev.succ ?_
  simp only [merkhetlaw14_BoundOf.j0]
  have hpl := parL_length l0
  have hpb := pairsB_length l0 (parL l0)
  have e1 := edgesB_le mayS l0 (numsL l0) l1
  have e2 := edgesB_le mayS l0 (numsL l0) (pairsB l0 (parL l0))
  refine Ev.neg (by simp) (Ev.bind (par_ev l0 (by omega)) (Ev.bind (rpairs_ev l0 (by omega) hfr _ (by omega)) (Ev.bind fx (Ev.pos rfl (Ev.bind (a := edgesB mayS l0 (numsL l0) l1) (Ev.const ?_) (Ev.bind (redges_ev l0 (by omega) hfr l1 (by omega)) (Ev.bind (sameE_self _ (by omega)) (Ev.pos rfl (Ev.bind (a := edgesB mayS l0 (numsL l0) (pairsB l0 (parL l0))) (Ev.const ?_) (Ev.bind (redges_ev l0 (by omega) hfr _ (by omega)) (Ev.bind (sameE_self _ (by omega)) (Ev.now _))))))))))))
  · unfold bound_Of.f; rw [if_pos ⟨by omega, hf, by omega⟩]
  · unfold bound_Of.f; rw [if_pos ⟨by omega, hf, by omega⟩]
end Go.Proofs.Ytjgpggjjgimibaa.Pure

